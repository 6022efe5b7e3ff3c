/-
  Oracles of the evaluator: what a strings.Builder does before it is written to, and what it gives as a string. Dotted names: their labels, and when one lies within another. Valid terms: names, nodes, levels; the symbols of the theory and what fits them. The order of terms, and that it is one. The subterms of a term; lists that are kept in order, each term once; copies. A slice that grows by appends: what it holds, and the rooms that stay its own. A term that is read is a tree; the call of a statement's function, and what it leaves as it was. Moments of a trace: their cells; what of them is sent
-/
import Derived.Test.YtjokjgoppbmaiaaGreatDoorFg
import Derived.Test.YtjokjgoppbmaiaaGreatDoorFf
import Derived.Lib.Bytealg
import Derived.Test.YtjokjgoppbmaiaaGreatDoorFc
import Derived.WideShapes
import Derived.Shelf.SlSortCmp.WholeK
import Derived.Lib.ItoaNum
import Derived.Lib.AtoiAll
namespace Go.Vm
open Go.RowKit
section
variable {P:Program} (w:World)
theorem liesAt_at {e:TypeId} (hc:P.cellsOf e=1) (count off n:Nat) (hn:off+n≤count):liesAt P P.depth e count off e n=true:=by
 have hd:P.depth=(2 * (P.types.size+Made.depth)+1)+1:=rfl
 rw [hd]
 simp only [liesAt,Bool.or_eq_true]
 left
 rw [hd]
 simp [rowAt,hc,hn,sameLayout,Nat.mod_one]
theorem run_unsafeString_at (pt it ty e : TypeId) (hp : P.underlying pt = some (.pointer e)) (hc : P.cellsOf e = 1) (g o cells : Nat) (hsh : w.shape? g = some (e, cells)) (l : List UInt8) (h0 : l ≠ []) (hn : o + l.length ≤ cells) (h63 : l.length ≤ 9223372036854775807)
  (hcell:∀ j x,l[j]? = some x→w.cell? ((⟨g,o,none⟩:Addr).add j)=some (.int .u8 x.toNat)) :
  (Builtin.unsafeString_ #[pt,it] ty #[.pointer (some ⟨g,o,none⟩),.int .i64 l.length]).run P w= .ok (.string ⟨l.toArray⟩) (w.freeze ⟨g,o,none⟩ l.length):=by
 have hl:l.length≠0:=by simpa using h0
 have hlb:=Lib.run_loadBytes (P:=P) w l ⟨g,o,none⟩ .empty hcell
 have hlies:=liesAt_at (P:=P) hc (cells / P.cellsOf e) o l.length (by rw [hc];simpa using hn)
 have h63':¬ (9223372036854775807:Int) < (l.length:Int):=by omega
 have hneg:¬ (l.length:Int) < 0:=by omega
 have hmax:IntKind.i64.max=9223372036854775807:=rfl
 change Sem.run P (asInt (.int .i64 l.length) >>= _) w=_
 simp [asInt,asIntOf,hmax,h63',hneg,hl,variablesAt,hsh,elemOf,run_underlying hp,hlies,hlb]
end
section
variable {g:Gh} {H:Heap} {w w':World}
theorem inv_mark (hi : Inv g H w) {k bb lo : Nat} {hi' : Nat × TypeId} {l : List Nat} (hk : k ∈ H.live) (hτ : g.τ k = some (bb, lo, hi')) (hl : l.Sublist H.live) (hn : ∀ x, x ∈ l → x ≠ k)
  (hh:∀ b,b≠bb→w'.heap[b]? = w.heap[b]?) (hc:∀ o,w'.cell? ⟨bb,o,none⟩=w.cell? ⟨bb,o,none⟩) (hs:w'.heap.size=w.heap.size) (hso:SameOut g w w') :
  Inv g {H with live:=l} w'∧Keep g H w g {H with live:=l} w':=by
 have hbx:∀ id b,H.liveAt id→g.σ id=some b→b≠bb:=fun id b h1 h2 e=>(hi.tk k bb lo hi' hk hτ).2.2 id h1 (by rw [h2,e])
 refine ⟨⟨fun b o v h=> ?_,fun id es el h=> ?_,fun id es h=> ?_,fun id T cs h=> ?_,hi.inj,hi.sd,hi.td,fun t b lo2 hi2 h1 h2=> ?_,fun t t' b a1 a2 b1 b2 h1 h2=>hi.tinj t t' b a1 a2 b1 b2 (hl.subset h1) (hl.subset h2),hi.nd.sublist hl,fun t h=>hi.lt t (hl.subset h),fun id b h=>by rw [hs];exact hi.sz id b h,hi.ro,fun id b c T m h1 h2 h3=> ?_⟩,
  ⟨.refl g,fun b hb hsh=>hh b fun e=>hsh.2 k lo hi' hk (by rw [e];exact hτ),fun _ _ _ _=>rfl,by rw [hs];exact Nat.le_refl _,fun i b h h'=>(by rw [h] at h';cases h'),fun i b _ _ h h'=>(by rw [h] at h';cases h'),rfl,Nat.le_refl _,fun _ _=>rfl,Nat.le_refl _,fun _ h=> .inl (hl.subset h),fun _ _ _ h=>h,fun _ _ h=>h,hso⟩⟩
 · by_cases e : b = bb
   · subst e;rw [hc];exact hi.st _ _ _ h
   · rw [cell_of_heap (hh b e)];exact hi.st _ _ _ h
 · obtain ⟨b, c, T, h1, h2, h3⟩ := hi.bx id es el h
   exact ⟨b,c,T,h1,by rw [hh b (hbx id b ⟨_,h,trivial⟩ h1)];exact h2,h3⟩
 · obtain ⟨b, c, T, h1, h2, h3⟩ := hi.mp id es h
   exact ⟨b,c,T,h1,by rw [hh b (hbx id b ⟨_,h,trivial⟩ h1)];exact h2,h3⟩
 · obtain ⟨b, c, h1, h2, h3⟩ := hi.sp id T cs h
   exact ⟨b,c,h1,by rw [hh b (hbx id b ⟨_,h,trivial⟩ h1)];exact h2,h3⟩
 · obtain ⟨⟨c, T, h3, h4⟩, h5, h6⟩ := hi.tk t b lo2 hi2 (hl.subset h1) h2
   have e:b≠bb:=fun e=>hn t h1 (hi.tinj t k bb lo2 hi2 lo hi' (hl.subset h1) hk (e ▸ h2) hτ)
   exact ⟨⟨c,T,by rw [hh b e];exact h3,h4⟩,h5,h6⟩
 · rw [hh b (hbx id b h1 h2)] at h3
   exact hi.rm id b c T m h1 h2 h3
end
noncomputable def ccZ (bT:TypeId):ZF:=fun args H=>match args with
 | [.ptr id es ix off] => match Nat.beq es 2 && (Nat.beq ix 0 && Nat.beq off 0) with
   | true => match nth H.bx id with
     | some (.sp T cs) => match cs with
       | [p, v] => match Nat.beq T bT with
         | true => match p with
           | .nilp => match Nat.ble H.ro id with
             | true=>some (.tup [],{H with bx:=H.bx.set id (.sp T [.ptr id 2 0 0,v])})
             | false=>none
           | .ptr i es' ix' off' => match Nat.beq i id && (Nat.beq es' 2 && (Nat.beq ix' 0 && Nat.beq off' 0)) with
             | true=>some (.tup [],H)
             | false=>none
           | _=>none
         | false=>none
       | _=>none
     | _=>none
   | false=>none
 | _=>none
theorem setCell_other (w:World) (b k:Nat) (v:Value) (o:Nat) (h:k≠b):(w.setCell ⟨b,o,none⟩ v).heap[k]? = w.heap[k]? :=by
 simp only [World.setCell,Array.getElem?_modify]
 rw [if_neg (Ne.symm h)]
theorem setCell_at (w:World) (b:Nat) (v c0 c1:Value) (T:TypeId) (fr:Nat×Nat) (h:w.heap[b]? = some (.cells #[c0,c1] T fr)):(w.setCell ⟨b,0,none⟩ v).heap[b]? = some (.cells #[v,c1] T fr):=by
 simp only [World.setCell,Array.getElem?_modify,h]
 simp
theorem cell_at (w:World) (b o:Nat) (c:Array Value) (T:TypeId) (fr:Nat×Nat) (h:w.heap[b]? = some (.cells c T fr)):w.cell? ⟨b,o,none⟩=c[o]? :=by
 simp [World.cell?,h]
theorem two_of {c:Array Value} (h:c.size=2):∃ a b,c= #[a,b]:=by
 obtain ⟨l⟩:=c
 match l,h with
 | [a,b],_=>exact ⟨a,b,rfl⟩
section
variable {E:Env} {P:Program}
theorem cc_ok {bT : TypeId} {f : FuncId} {fn : Func} {c : Code} (hf : FnOk P f fn c)
  (h0 : ∀ (b : Nat) (w : World), w.cell? ⟨b, 0, none⟩ = some (.pointer none) → w.shape? b = some (bT, 2) → w.frozen? ⟨b, 0, none⟩ = false →
    Calls P f #[.pointer (some ⟨b,0,none⟩)] w fun e w'=>e= .returned (.tuple #[])∧w'=w.setCell ⟨b,0,none⟩ (.pointer (some ⟨b,0,none⟩)))
  (h1:∀ (b:Nat) (w:World),w.cell? ⟨b,0,none⟩=some (.pointer (some ⟨b,0,none⟩))→Calls P f #[.pointer (some ⟨b,0,none⟩)] w fun e w'=>e= .returned (.tuple #[])∧w'=w)
  (he:E.eff f=true):ZOk E P (f,ccZ bT):=by
 intro args H p H' h
 simp only [ccZ] at h
 split at h
 · rename_i id es ix off
   split at h
   · rename_i hq
     simp only [Bool.and_eq_true] at hq
     obtain rfl:=Nat.eq_of_beq_eq_true hq.1
     obtain rfl:=Nat.eq_of_beq_eq_true hq.2.1
     obtain rfl:=Nat.eq_of_beq_eq_true hq.2.2
     split at h
     · rename_i T cs hb
       rw [nth_eq] at hb
       split at h
       · rename_i x v
         split at h
         · rename_i hT
           obtain rfl:=Nat.eq_of_beq_eq_true hT
           refine ⟨fun g w vals hi hg hv=> ?_,fun hh=>by rw [he] at hh;cases hh⟩
           obtain ⟨v0,rfl,e0⟩:=one_val hv
           obtain ⟨b,hσ,rfl⟩:=e0.ptr_inv
           obtain ⟨b',c,z1,z2,z3,z4,z5⟩:=hi.sp _ _ _ hb
           rw [hσ] at z1;cases z1
           obtain ⟨c0,c1,rfl⟩:=two_of z3
           have y0:V g x c0:=by
            obtain ⟨u,hu,hx⟩:=z4 0 (by simp)
            simp at hu hx;rw [hu];exact hx
           have y1:V g v c1:=by
            obtain ⟨u,hu,hx⟩:=z4 1 (by simp)
            simp at hu hx;rw [hu];exact hx
           have hc0:w.cell? ⟨b,0,none⟩=some c0:=by rw [cell_at w b 0 _ _ _ z2];rfl
           rw [callFunc_enter hf]
           simp only [Nat.zero_mul,Nat.zero_add]
           cases x with
           | nilp =>
             simp only at h
             split at h
             · rename_i hro
               cases h
               obtain rfl:=y0.nilp_inv
               refine Calls.mono (h0 b w hc0 (by simp [World.shape?,z2]) (by simp [World.frozen?,z2])) fun e w' ⟨h1,h2⟩=> ?_
               subst h2
               have hat:=setCell_at w b (.pointer (some ⟨b,0,none⟩)) _ _ _ _ z2
               obtain ⟨j1, j2⟩ := inv_put hi (Nat.le_of_ble_eq_true hro) hb trivial hσ z5 (fun k hk => setCell_other w b k _ 0 hk) (by simp [World.setCell]) hat (fun a => by
                 by_cases ea:a.block=b
                 · simp only [World.frozen?,ea,hat,z2]
                 · simp only [World.frozen?,setCell_other w b a.block _ 0 ea]) (bo:= .sp T [.ptr id 2 0 0,v]) (fun es el h=>by cases h) (fun es h=>by cases h) (fun c2 T2 m2 h=>by
                 cases h
                 have h2:=hi.rm id b _ _ _ ⟨_,hb,trivial⟩ hσ z2
                 simpa using h2) .rfls (fun T2 cs2 h=>by
                 cases h
                 refine ⟨_,rfl,rfl,fun j hj=> ?_⟩
                 match j,hj with
                 | 0,_=>exact ⟨_,rfl,by have:=V.ptr (g:=g) id 2 0 0 b hσ;simpa using this⟩
                 | 1,_=>exact ⟨_,rfl,y1⟩)
               exact ⟨_,h1,g,.tup _ _ rfl (fun i hi=>absurd hi (by simp)),j1,j2⟩
             · cases h
           | ptr i es' ix' off' =>
             simp only at h
             split at h
             · rename_i hq
               simp only [Bool.and_eq_true] at hq
               obtain rfl:=Nat.eq_of_beq_eq_true hq.1
               obtain rfl:=Nat.eq_of_beq_eq_true hq.2.1
               obtain rfl:=Nat.eq_of_beq_eq_true hq.2.2.1
               obtain rfl:=Nat.eq_of_beq_eq_true hq.2.2.2
               cases h
               obtain ⟨b2,hσ2,rfl⟩:=y0.ptr_inv
               rw [hσ] at hσ2;cases hσ2
               refine Calls.mono (h1 b w (by simpa using hc0)) fun e w' ⟨h1,h2⟩=> ?_
               subst h2
               exact ⟨_,h1,g,.tup _ _ rfl (fun i hi=>absurd hi (by simp)),hi,KeepN.refl _ _ _ _⟩
             · cases h
           | _=>simp at h
         · cases h
       · cases h
     · cases h
   · cases h
 · cases h
theorem bytesL_spec:∀ {el:List (List PV)} {l:List UInt8},bytesL el=some l→el=strBytes l
 | [],l,h=>by simp [bytesL] at h;subst h;rfl
 | c :: r, l, h => by
   simp only [bytesL] at h
   split at h
   · rename_i n
     split at h
     · rename_i hn
       simp only [Bool.and_eq_true,decide_eq_true_eq] at hn
       split at h
       · rename_i l' hl
         cases h
         have:=byte_of hn.1 hn.2
         rw [bytesL_spec hl,strBytes,strBytes,List.map_cons]
         congr 2
         rw [show Int.ofNat (n.toNat.toUInt8).toNat=n from this]
       · cases h
     · cases h
   · cases h
noncomputable def bstrZ (bT:TypeId):ZF:=fun args H=>match args with
 | [.ptr id es ix off] => match Nat.beq es 2 && (Nat.beq ix 0 && Nat.beq off 0) with
   | true => match nth H.bx id with
     | some (.sp T cs) => match cs with
       | [_, v] => match Nat.beq T bT with
         | true => match v with
           | .nils=>some (.str [],H)
           | .sl (.tok k) es' el => match Nat.beq es' 1, eraseTok k H.live, bytesL el with
             | true, some l, some bs => match Nat.blt 0 bs.length && Nat.ble bs.length 1000000 with
               | true=>some (.str bs,{H with live:=l})
               | false=>none
             | _,_,_=>none
           | _=>none
         | false=>none
       | _=>none
     | _=>none
   | false=>none
 | _=>none
theorem freeze_other (w:World) (b o n k:Nat) (h:k≠b):(w.freeze ⟨b,o,none⟩ n).heap[k]? = w.heap[k]? :=by
 unfold World.freeze
 split
 · rfl
 · simp only [Array.getElem?_modify]
   rw [if_neg (Ne.symm h)]
theorem freeze_cell (w:World) (b o n q:Nat) (c:Array Value) (T:TypeId) (fr:Nat×Nat) (h:w.heap[b]? = some (.cells c T fr)):(w.freeze ⟨b,o,none⟩ n).cell? ⟨b,q,none⟩=w.cell? ⟨b,q,none⟩:=by
 unfold World.freeze
 split
 · rfl
 · simp [World.cell?,Array.getElem?_modify,h]
theorem freeze_size (w:World) (a:Addr) (n:Nat):(w.freeze a n).heap.size=w.heap.size:=by
 unfold World.freeze
 split
 · rfl
 · simp
theorem freeze_so (g:Gh) (w:World) (a:Addr) (n:Nat):SameOut g w (w.drew.freeze a n):=by
 unfold World.freeze
 split <;> exact .rfls
theorem bstr_ok {bT : TypeId} {f : FuncId} {fn : Func} {c : Code} (hf : FnOk P f fn c)
  (h0:∀ (b:Nat) (p:Value) (w:World),w.heap[b]? = some (.cells #[p,.slice none 0 0] bT (0,0))→Calls P f #[.pointer (some ⟨b,0,none⟩)] w fun e w'=>e= .returned (.string ⟨#[]⟩)∧w'=w.drew)
  (h1 : ∀ (b : Nat) (p : Value) (bb o cap : Nat) (cur : Array Value) (l : List UInt8) (w : World), w.heap[b]? = some (.cells #[p, .slice (some ⟨bb, o, none⟩) l.length cap] bT (0, 0)) → w.heap[bb]? = some (.cells cur 5 (0, 0)) → l ≠ [] → l.length ≤ cap → o + cap ≤ cur.size → l.length ≤ 1000000 →
    (∀ j x,l[j]? = some x→w.cell? ⟨bb,o+j,none⟩=some (.int .u8 x.toNat))→Calls P f #[.pointer (some ⟨b,0,none⟩)] w fun e w'=>e= .returned (.string ⟨l.toArray⟩)∧w'=w.drew.freeze ⟨bb,o,none⟩ l.length)
  (he:E.eff f=true):ZOk E P (f,bstrZ bT):=by
 intro args H p H' h
 simp only [bstrZ] at h
 split at h
 · rename_i id es ix off
   split at h
   · rename_i hq
     simp only [Bool.and_eq_true] at hq
     obtain rfl:=Nat.eq_of_beq_eq_true hq.1
     obtain rfl:=Nat.eq_of_beq_eq_true hq.2.1
     obtain rfl:=Nat.eq_of_beq_eq_true hq.2.2
     split at h
     · rename_i T cs hb
       rw [nth_eq] at hb
       split at h
       · rename_i x v
         split at h
         · rename_i hT
           obtain rfl:=Nat.eq_of_beq_eq_true hT
           refine ⟨fun g w vals hi hg hv=> ?_,fun hh=>by rw [he] at hh;cases hh⟩
           obtain ⟨v0,rfl,e0⟩:=one_val hv
           obtain ⟨b,hσ,rfl⟩:=e0.ptr_inv
           obtain ⟨b',c,z1,z2,z3,z4,z5⟩:=hi.sp _ _ _ hb
           rw [hσ] at z1;cases z1
           obtain ⟨c0,c1,rfl⟩:=two_of z3
           have y1:V g v c1:=by
            obtain ⟨u,hu,hx⟩:=z4 1 (by simp)
            simp at hu hx;rw [hu];exact hx
           rw [callFunc_enter hf]
           simp only [Nat.zero_mul,Nat.zero_add]
           cases v with
           | nils =>
             simp only at h
             cases h
             obtain rfl:=y1.nils_inv
             refine Calls.mono (h0 b _ w z2) fun e w' ⟨h1,h2⟩=> ?_
             subst h2
             exact ⟨_,h1,g,.pure _ _ (.str _ _ rfl),hi.same rfl,KeepN.same rfl⟩
           | sl tl es' el =>
             cases tl with
             | tok k =>
               simp only at h
               split at h
               · rename_i l bs hes hl hbs
                 split at h
                 · rename_i hle
                   simp only [Bool.and_eq_true] at hle
                   cases h
                   obtain rfl:=Nat.eq_of_beq_eq_true hes
                   have hel:=bytesL_spec hbs
                   have hpos:0 < bs.length:=Nat.le_of_ble_eq_true hle.1
                   have hmax:=Nat.le_of_ble_eq_true hle.2
                   have hlen:el.length=bs.length:=by rw [hel];simp [strBytes]
                   obtain ⟨hk,hsub,hne⟩:=eraseTok_spec hl
                   obtain ⟨bb,o,cap,vv,a,rfl,hcap,hw,hS,hV,⟨T2,hT2,hroom⟩,ha⟩:=y1.sl_inv
                   have ha:=ha (.inl (by omega))
                   subst ha
                   have hτ:g.τ k=some (bb,o+el.length * 1,(o+cap * 1,T2)):=by
                    rcases hroom with ⟨h,_⟩ | h
                    · omega
                    · exact h
                   obtain ⟨⟨cur,T3,q1,q2⟩,q3,q4⟩:=hi.tk k _ _ _ hk hτ
                   have h5:T2=5:=by
                    rw [hel] at hT2
                    obtain ⟨y,r,rfl⟩:∃ y r,bs=y :: r:=by
                     cases bs with
                     | nil=>simp at hpos
                     | cons y r=>exact ⟨y,r,rfl⟩
                    simp only [strBytes,List.map_cons,tokB,List.all_cons,Bool.and_eq_true,byteC] at hT2
                    exact Nat.eq_of_beq_eq_true hT2.1
                   have q2b:T3=5:=q2.2.trans h5
                   subst q2b
                   have hcell:∀ j x,bs[j]? = some x→w.cell? ⟨bb,o+j,none⟩=some (.int .u8 x.toNat):=fun j x hj=>by
                    have hjl:j < bs.length:=get_lt hj
                    have hje:j < el.length:=by omega
                    have s1:=hS j 0 hje (by omega)
                    have ej:el[j]= [.int .u8 (Int.ofNat x.toNat)]:=by
                     have:el[j]? = some [.int .u8 (Int.ofNat x.toNat)]:=by rw [hel,strBytes,List.getElem?_map,hj];rfl
                     rw [List.getElem?_eq_getElem hje] at this
                     simpa using this
                    have s2:=hV j hje 0 (by rw [ej];simp)
                    have e:(el[j])[0]'(by rw [ej];simp)= .int .u8 (Int.ofNat x.toNat):=by simp [ej]
                    rw [e] at s2
                    have s3:vv j 0= .int .u8 (Int.ofNat x.toNat):=by
                     revert s2
                     generalize vv j 0=u
                     intro s2
                     cases s2
                     rfl
                    rw [s3] at s1
                    have:=hi.st _ _ _ s1
                    simpa using this
                   have q2a:=q2.1
                   simp only [Nat.mul_one] at q2a
                   rw [hlen] at z2
                   have hne0:bs≠ []:=List.length_pos_iff.1 hpos
                   refine Calls.mono (h1 b _ bb o cap cur bs w z2 q1 hne0 (by omega) q2a hmax hcell) fun e w' ⟨h1,h2⟩=> ?_
                   subst h2
                   have qd:w.drew.heap[bb]? = some (.cells cur 5 (0,0)):=q1
                   obtain ⟨j1,j2⟩:=inv_mark (w':=w.drew.freeze ⟨bb,o,none⟩ bs.length) hi hk hτ hsub (hne hi.nd) (fun b2 hb2=>freeze_other w.drew bb o _ b2 hb2) (fun q=>freeze_cell w.drew bb o _ q _ _ _ qd) (freeze_size _ _ _) (freeze_so _ _ _ _)
                   exact ⟨_,h1,g,.pure _ _ (.str _ _ rfl),j1,j2⟩
                 · cases h
               · cases h
             | _=>simp at h
           | _=>simp at h
         · cases h
       · cases h
     · cases h
   · cases h
 · cases h
end
end Go.Vm
namespace Go.Vm
abbrev Bs:=List UInt8
def splitD:Bs→List Bs
 | []=>[[]]
 | c :: r => match c == 46 with
   | true=>[] :: splitD r
   | false => match splitD r with
     | []=>[[c]]
     | x :: l=>(c :: x) :: l
def joinD:List Bs→Bs
 | []=>[]
 | [x]=>x
 | x :: y :: l=>x ++ 46 :: joinD (y :: l)
theorem splitD_ne (s:Bs):splitD s≠ []:=by
 cases s with
 | nil=>simp [splitD]
 | cons c r =>
   simp only [splitD]
   split
   · simp
   · split <;> simp
theorem join_split (s:Bs):joinD (splitD s)=s:=by
 induction s with
 | nil=>rfl
 | cons c r ih =>
   simp only [splitD]
   split
   · rename_i h
     have hc:c=46:=by simpa using h
     subst hc
     cases hs:splitD r with
     | nil=>exact absurd hs (splitD_ne r)
     | cons x l=>rw [hs] at ih;simp [joinD,ih]
   · cases hs : splitD r with
     | nil=>exact absurd hs (splitD_ne r)
     | cons x l =>
       rw [hs] at ih
       cases l with
       | nil=>simp only [joinD] at ih ⊢;rw [ih]
       | cons y l=>simp only [joinD,List.cons_append] at ih ⊢;rw [ih]
def lowB (c:UInt8):Bool:=decide (97≤c.toNat) && decide (c.toNat≤122)
def digB (c:UInt8):Bool:=decide (48≤c.toNat) && decide (c.toNat≤57)
def labelB:Bs→Bool
 | []=>false
 | c :: r=>lowB c && (r.all (fun x=>lowB x || digB x) && decide (r.length≤7))
def dottedB (s:Bs):Bool:=decide ((splitD s).length≤4) && (splitD s).all labelB
end Go.Vm
namespace Go.Vm
def ltrI (c:Int):Bool:=(decide (97≤c) && decide (c≤122)) || (decide (65≤c) && decide (c≤90))
def digI (c:Int):Bool:=decide (48≤c) && decide (c≤57)
def partI (c:Int):Bool:=ltrI c || (digI c || (decide (c=95) || decide (c=35)))
def partB (c:UInt8):Bool:=partI (Int.ofNat c.toNat)
def nameF (s:List UInt8):Bool:=match s with
 | []=>false
 | c :: _=>decide (s.length≤24) && (ltrI (Int.ofNat c.toNat) && s.all partB)
def nodeF (k:Int) (nm:List UInt8) (s:Int) (n:Nat):Int:=
 if ¬ (k=1∨k=2∨k=3)∨s < 0∨5 < s∨(k=3∧s≠0)∨(k≠3∧0 < n) then 1 else if nameF nm=false then 2 else if 8 < n then 3 else 0
mutual
def Tm.nodes:Tm→Int
 | .mk k nm s _ kids=>if nodeF k nm s kids.length≠0 then nodeF k nm s kids.length else nodesL kids
def nodesL:List Tm→Int
 | []=>0
 | t :: r=>if t.nodes≠0 then t.nodes else nodesL r
end
mutual
def Tm.depth:Tm→Nat
 | .mk _ _ _ _ kids=>depthL kids+1
def depthL:List Tm→Nat
 | []=>0
 | t :: r=>max t.depth (depthL r)
end
def Tm.valid (t:Tm):Int:=if t.nodes≠0 then t.nodes else if 400 < t.size∨40 < t.depth then 3 else 0
mutual
def Tm.check:Tm→Int→Int→Int→Int×Int×Int
 | .mk k nm s _ kids,lvl,n,d=>if nodeF k nm s kids.length≠0 then (nodeF k nm s kids.length,n+1,if d < lvl then lvl else d) else checkL kids (lvl+1) (n+1) (if d < lvl then lvl else d)
def checkL:List Tm→Int→Int→Int→Int×Int×Int
 | [],_,n,d=>(0,n,d)
 | t :: r,lvl,n,d=>if (t.check lvl n d).1≠0 then t.check lvl n d else checkL r lvl (t.check lvl n d).2.1 (t.check lvl n d).2.2
end
mutual
theorem Tm.check_eq:∀ (t:Tm) (lvl n d:Int),(t.check lvl n d).1=t.nodes∧(t.nodes=0→0≤lvl→(t.check lvl n d).2=(n+(t.size:Int),max d (lvl+(t.depth:Int) - 1)))
 | .mk k nm s b kids, lvl, n, d => by
   simp only [Tm.check,Tm.nodes,Tm.size,Tm.depth]
   split
   · rename_i h
     exact ⟨rfl,fun h'=>absurd h' h⟩
   · obtain ⟨h1, h2⟩ := checkL_eq kids (lvl + 1) (n + 1) (if d < lvl then lvl else d)
     refine ⟨h1,fun h3 h4=> ?_⟩
     rw [h2 h3 (by omega)]
     refine Prod.ext_iff.2 ⟨?_,?_⟩
     · simp;omega
     · simp only []
       split
       · split <;> omega
       · split <;> omega
theorem checkL_eq:∀ (l:List Tm) (lvl n d:Int),(checkL l lvl n d).1=nodesL l∧(nodesL l=0→0≤lvl→(checkL l lvl n d).2=(n+(sizeL l:Int),if depthL l=0 then d else max d (lvl+(depthL l:Int) - 1)))
 | [],lvl,n,d=>by simp [checkL,nodesL,sizeL,depthL]
 | t :: r, lvl, n, d => by
   obtain ⟨h1,h2⟩:=Tm.check_eq t lvl n d
   have hD:depthL (t :: r)=max t.depth (depthL r):=by simp only [depthL]
   simp only [checkL,nodesL,sizeL,h1]
   generalize depthL (t :: r)=D at hD ⊢
   split
   · rename_i h
     exact ⟨h1,fun h'=>absurd h' h⟩
   · rename_i h
     have h0:t.nodes=0:=by simpa using h
     obtain ⟨h3,h4⟩:=checkL_eq r lvl (t.check lvl n d).2.1 (t.check lvl n d).2.2
     refine ⟨h3,fun h5 h6=> ?_⟩
     rw [h4 h5 h6,h2 h0 h6]
     have hp:1≤t.depth:=by cases t;simp [Tm.depth]
     refine Prod.ext_iff.2 ⟨?_,?_⟩
     · simp;omega
     · simp only []
       split <;> split <;> omega
end
theorem Tm.valid_check (t:Tm):t.valid=(if (t.check 1 0 0).1≠0 then (t.check 1 0 0).1 else if 400 < (t.check 1 0 0).2.1∨40 < (t.check 1 0 0).2.2 then 3 else 0):=by
 obtain ⟨h1,h2⟩:=t.check_eq 1 0 0
 rw [h1]
 unfold Tm.valid
 split
 · rfl
 · rename_i h
   rw [h2 (by simpa using h) (by omega)]
   congr 1
   apply propext
   simp only []
   omega
mutual
theorem Tm.depth_le:∀ t:Tm,t.depth≤t.size
 | .mk _ _ _ _ kids=>by have:=depthL_le kids;simp only [Tm.depth,Tm.size];omega
theorem depthL_le:∀ l:List Tm,depthL l≤sizeL l
 | []=>by simp [depthL]
 | t :: r=>by have:=t.depth_le;have:=depthL_le r;simp only [depthL,sizeL];omega
end
theorem depthL_take {l:List Tm}:∀ {i:Nat} {t:Tm},l[i]? = some t→depthL (l.take (i+1))=max (depthL (l.take i)) t.depth:=by
 induction l with
 | nil=>intro i t h;simp at h
 | cons a r ih =>
   intro i t h
   cases i with
   | zero=>simp at h;subst h;simp [depthL]
   | succ i=>simp at h;simp only [List.take_succ_cons,depthL,ih h];omega
mutual
theorem Tm.check_range:∀ (t:Tm) (lvl n d:Int),n≤(t.check lvl n d).2.1∧(t.check lvl n d).2.1≤n+(t.size:Int)∧d≤(t.check lvl n d).2.2∧(t.check lvl n d).2.2≤max d (lvl+(t.size:Int))
 | .mk k nm s b kids, lvl, n, d => by
   simp only [Tm.check,Tm.size]
   split
   · simp only []
     split <;> omega
   · have := checkL_range kids (lvl + 1) (n + 1) (if d < lvl then lvl else d)
     split at this <;> split <;> omega
theorem checkL_range:∀ (l:List Tm) (lvl n d:Int),n≤(checkL l lvl n d).2.1∧(checkL l lvl n d).2.1≤n+(sizeL l:Int)∧d≤(checkL l lvl n d).2.2∧(checkL l lvl n d).2.2≤max d (lvl+(sizeL l:Int))
 | [],lvl,n,d=>by simp [checkL,sizeL];omega
 | t :: r, lvl, n, d => by
   have h1:=t.check_range lvl n d
   simp only [checkL,sizeL]
   split
   · omega
   · have h2 := checkL_range r lvl (t.check lvl n d).2.1 (t.check lvl n d).2.2
     omega
end
structure Sym where
 name:List UInt8
 least:Int
 most:Int
 kind:Int
def Sym.cells (s:Sym):List PV:=[.str s.name,.int .i64 s.least,.int .i64 s.most,.int .i64 s.kind]
def Sym.zero:Sym:=⟨[],0,0,0⟩
def syms:List Sym:=[
 ⟨[112,97,105,114],2,2,1⟩,⟨[101,110,99],2,2,1⟩,⟨[97,101,110,99],2,2,1⟩,⟨[112,107],1,1,1⟩,⟨[115,105,103,110],2,2,1⟩,⟨[104,97,115,104],1,1,1⟩,
 ⟨[120,111,114],2,8,1⟩,⟨[122,101,114,111],0,0,1⟩,⟨[101,120,112],2,2,1⟩,⟨[109,117,108],2,8,1⟩,⟨[105,110,118],1,1,1⟩,⟨[111,110,101],0,0,1⟩,
 ⟨[115,107],1,1,2⟩,⟨[115,104,107],2,2,2⟩,⟨[110,101,119],1,8,2⟩,
 ⟨[102,115,116],1,1,3⟩,⟨[115,110,100],1,1,3⟩,⟨[100,101,99],2,2,3⟩,⟨[97,100,101,99],2,2,3⟩,⟨[111,112,101,110],2,2,3⟩,⟨[114,101,97,100],1,1,3⟩]
def symC (l:List Sym):List (List PV):=l.map Sym.cells
theorem symC_len (l:List Sym):(symC l).length=l.length:=by simp [symC]
theorem symC_get {l:List Sym} {i:Nat} {s:Sym} (h:l[i]? = some s):(symC l)[i]? = some s.cells:=by simp [symC,h]
def findS (nm:List UInt8):List Sym→Option Sym
 | []=>none
 | s :: r=>if (s.name == nm)=true then some s else findS nm r
def symF (nm:List UInt8):Sym:=(findS nm syms).getD .zero
def privF (nm:List UInt8) (kids:List Tm):Bool:=if nm= [110,101,119] then (match kids with | .mk k _ _ _ _ :: _=>decide (k=2) | []=>false) else kids.all fun t=>match t with | .mk k _ s _ _=> !(decide (k=3)) && decide (s=1)
mutual
def Tm.th:Tm→Int
 | .mk k nm _ _ kids=>if k≠3 then 0 else if (symF nm).kind=0 then 10 else if (kids.length:Int) < (symF nm).least∨(symF nm).most < (kids.length:Int) then 6 else if (symF nm).kind=2∧privF nm kids=false then 10 else thL kids
def thL:List Tm→Int
 | []=>0
 | t :: r=>if t.th≠0 then t.th else thL r
end
theorem findS_mem {nm:List UInt8}:∀ {l:List Sym} {s:Sym},findS nm l=some s→s∈l∧s.name=nm
 | a :: r, s, h => by
   simp only [findS] at h
   split at h
   · rename_i e
     cases h
     exact ⟨List.mem_cons_self,by simpa using e⟩
   · obtain ⟨h1, h2⟩ := findS_mem h
     exact ⟨List.mem_cons_of_mem _ h1,h2⟩
theorem symF_case (nm:List UInt8):symF nm= .zero∨(symF nm∈syms∧(symF nm).name=nm):=by
 unfold symF
 cases h:findS nm syms with
 | none=>exact .inl rfl
 | some s=>exact .inr (findS_mem h)
theorem symF_priv {nm:List UInt8}:(symF nm).kind=2↔nm= [115,107]∨nm= [115,104,107]∨nm= [110,101,119]:=by
 constructor
 · intro h
   rcases symF_case nm with e | ⟨e1,e2⟩
   · rw [e] at h;simp [Sym.zero] at h
   · rw [← e2]
     revert h
     generalize symF nm=s at e1
     simp only [syms,List.mem_cons,List.not_mem_nil,or_false] at e1
     rcases e1 with rfl | rfl | rfl | rfl | rfl | rfl | rfl | rfl | rfl | rfl | rfl | rfl | rfl | rfl | rfl | rfl | rfl | rfl | rfl | rfl | rfl <;> simp
 · rintro (rfl | rfl | rfl) <;> rfl
def algB (nm:List UInt8):Bool:=(nm == [120,111,114]) || (nm == [122,101,114,111]) || (nm == [101,120,112]) || (nm == [109,117,108]) || (nm == [105,110,118]) || (nm == [111,110,101])
def fNmB (nm:List UInt8):Bool:= !(algB nm) && decide ((symF nm).kind≠3)
mutual
def Tm.fre:Tm→Bool
 | .mk k nm _ _ kids=>(if k=3 then fNmB nm else true) && freL kids
def freL:List Tm→Bool
 | []=>true
 | t :: r=>t.fre && freL r
end
end Go.Vm
namespace Go.Vm
def cmpI (a b:Int):Int:=if a < b then -1 else if b < a then 1 else 0
def cmpB (a b:List UInt8):Int:=if Op.bytesLess a b=true then -1 else if a=b then 0 else 1
def thn (a b:Int):Int:=if a≠0 then a else b
mutual
def Tm.cmp:Tm→Tm→Int
 | .mk k nm s _ l,.mk k' nm' s' _ l'=>thn (cmpI ((1+sizeL l:Nat):Int) ((1+sizeL l':Nat):Int)) (thn (cmpI k k') (thn (cmpB nm nm') (thn (cmpI s s') (thn (cmpI (l.length:Int) (l'.length:Int)) (cmpL l l')))))
def cmpL:List Tm→List Tm→Int
 | [],_=>0
 | a :: r, l' => match l' with
   | []=>0
   | b :: r'=>thn (a.cmp b) (cmpL r r')
end
structure CmpOn {α:Type} (S:α→Prop) (c:α→α→Int):Prop where
 anti:∀ a b,S a→S b→c b a= - c a b
 tr:∀ a b d,S a→S b→S d→c a b≤0→c b d≤0→c a d≤0
section
variable {α:Type} {S:α→Prop} {c:α→α→Int}
theorem CmpOn.strict1 (h:CmpOn S c) {a b d:α} (ha:S a) (hb:S b) (hd:S d) (h1:c a b < 0) (h2:c b d≤0):c a d < 0:=by
 have h3:=h.tr a b d ha hb hd (by omega) h2
 rcases Int.lt_or_eq_of_le h3 with h4 | h4
 · exact h4
 · exfalso
   have h5:=h.anti a d ha hd
   have h6:=h.tr b d a hb hd ha h2 (by omega)
   have h7:=h.anti a b ha hb
   omega
theorem CmpOn.strict2 (h:CmpOn S c) {a b d:α} (ha:S a) (hb:S b) (hd:S d) (h1:c a b≤0) (h2:c b d < 0):c a d < 0:=by
 have h3:=h.tr a b d ha hb hd h1 (by omega)
 rcases Int.lt_or_eq_of_le h3 with h4 | h4
 · exact h4
 · exfalso
   have h5:=h.anti a d ha hd
   have h6:=h.tr d a b hd ha hb (by omega) h1
   have h7:=h.anti b d hb hd
   omega
theorem CmpOn.then_le (h:CmpOn S c) {a b d:α} (ha:S a) (hb:S b) (hd:S d) {x y z:Int} (hz:x≤0→y≤0→z≤0) (h1:thn (c a b) x≤0) (h2:thn (c b d) y≤0):thn (c a d) z≤0:=by
 unfold thn at *
 by_cases e1:c a b=0
 · rw [if_neg (by simpa using e1)] at h1
   by_cases e2:c b d=0
   · rw [if_neg (by simpa using e2)] at h2
     have h3:=h.tr a b d ha hb hd (by omega) (by omega)
     split
     · exact h3
     · exact hz h1 h2
   · rw [if_pos e2] at h2
     have:=h.strict2 ha hb hd (by omega) (show c b d < 0 by omega)
     rw [if_pos (by omega)];omega
 · rw [if_pos e1] at h1
   have h2':c b d≤0:=by
    by_cases e2:c b d=0
    · omega
    · rw [if_pos e2] at h2;exact h2
   have:=h.strict1 ha hb hd (show c a b < 0 by omega) h2'
   rw [if_pos (by omega)];omega
theorem thn_neg {a b a' b':Int} (h:a'= - a) (h':b'= - b):thn a' b'= - thn a b:=by
 subst h h'
 unfold thn
 by_cases e:a=0
 · simp [e]
 · rw [if_pos e,if_pos (by omega)]
end
theorem cmpI_on:CmpOn (fun _=>True) cmpI:=⟨fun a b _ _=>by simp only [cmpI];split <;> split <;> (try split) <;> omega,fun a b d _ _ _=>by simp only [cmpI];split <;> split <;> (try split) <;> (try split) <;> (try split) <;> omega⟩
theorem bytesLess_asymm:∀ a b:List UInt8,Op.bytesLess a b=true→Op.bytesLess b a=false
 | [],[]=>by simp [Op.bytesLess]
 | [],_ :: _=>by simp [Op.bytesLess]
 | _ :: _,[]=>by simp [Op.bytesLess]
 | x :: a, y :: b => by
   have ih:=bytesLess_asymm a b
   simp only [Op.bytesLess]
   by_cases h1:x < y
   · have h2 : ¬ y < x := by simp only [UInt8.lt_iff_toNat_lt] at *; omega
     have h3:¬ y=x:=by intro e;subst e;simp only [UInt8.lt_iff_toNat_lt] at *;omega
     simp [h1,h2,h3]
   · by_cases h2 : x = y
     · subst h2;simpa using ih
     · simp [h1,h2]
theorem bytesLess_total:∀ a b:List UInt8,Op.bytesLess a b=false→a≠b→Op.bytesLess b a=true
 | [],[]=>by simp
 | [],_ :: _=>by simp [Op.bytesLess]
 | _ :: _,[]=>by simp [Op.bytesLess]
 | x :: a, y :: b => by
   have ih:=bytesLess_total a b
   simp only [Op.bytesLess]
   intro h hne
   by_cases h2:x=y
   · subst h2
     simp at h hne ⊢
     exact ih h hne
   · have : ¬ x < y := by intro e; simp [e] at h
     have:y < x:=by
      have h3:x.toNat≠y.toNat:=fun e=>h2 (UInt8.toNat_inj.1 e)
      simp only [UInt8.lt_iff_toNat_lt] at *;omega
     simp [this]
theorem bytesLess_trans:∀ a b c:List UInt8,Op.bytesLess a b=true→Op.bytesLess b c=true→Op.bytesLess a c=true
 | [],[],_=>by simp [Op.bytesLess]
 | [],_ :: _,[]=>by simp [Op.bytesLess]
 | [],_ :: _,_ :: _=>by simp [Op.bytesLess]
 | _ :: _,[],_=>by simp [Op.bytesLess]
 | _ :: _,_ :: _,[]=>by simp [Op.bytesLess]
 | x :: a, y :: b, z :: c => by
   have ih:=bytesLess_trans a b c
   simp only [Op.bytesLess,Bool.or_eq_true,Bool.and_eq_true,decide_eq_true_eq,beq_iff_eq]
   rintro (h1 | ⟨rfl,h1⟩) (h2 | ⟨rfl,h2⟩)
   · left;simp only [UInt8.lt_iff_toNat_lt] at *;omega
   · exact .inl h1
   · exact .inl h2
   · exact .inr ⟨rfl,ih h1 h2⟩
theorem cmpB_on:CmpOn (fun _=>True) cmpB where
 anti a b _ _:=by
  simp only [cmpB]
  by_cases h1:Op.bytesLess a b=true
  · have := bytesLess_asymm a b h1
    have hne:¬ b=a:=by intro e;subst e;rw [bytesLess_irrefl] at h1;cases h1
    simp [h1,this,hne]
  · simp only [Bool.not_eq_true] at h1
    by_cases e:a=b
    · subst e;simp [h1]
    · have := bytesLess_total a b h1 e
      simp [h1,e,this]
 tr a b d _ _ _:=by
  simp only [cmpB]
  intro h1 h2
  by_cases e1:Op.bytesLess a b=true
  · by_cases e2 : Op.bytesLess b d = true
    · simp [bytesLess_trans a b d e1 e2]
    · by_cases e3 : b = d
      · subst e3;simp [e1]
      · simp [e2,e3] at h2
  · by_cases e3 : a = b
    · subst e3;exact h2
    · simp [e1,e3] at h1
theorem compareBytes_eq:∀ a b:List UInt8,Lib.compareBytes a b=cmpB a b
 | [],[]=>by simp [Lib.compareBytes,cmpB,Op.bytesLess]
 | [],_ :: _=>by simp [Lib.compareBytes,cmpB,Op.bytesLess]
 | _ :: _,[]=>by simp [Lib.compareBytes,cmpB,Op.bytesLess]
 | x :: a, y :: b => by
   have ih:=compareBytes_eq a b
   simp only [Lib.compareBytes,ih,cmpB,Op.bytesLess]
   by_cases h1:x < y
   · simp [h1]
   · by_cases h2 : x = y
     · subst h2;simp [h1]
     · have : y < x := by
         have h3:x.toNat≠y.toNat:=fun e=>h2 (UInt8.toNat_inj.1 e)
         simp only [UInt8.lt_iff_toNat_lt] at *;omega
       simp [h1,h2,this]
theorem cmpL_on {N:Nat} (h:CmpOn (fun t:Tm=>t.size≤N) Tm.cmp):∀ m:Nat,CmpOn (fun l:List Tm=>l.length=m∧∀ t,t∈l→t.size≤N) cmpL
 | 0 => ⟨fun a b ha hb => by
     obtain rfl:=List.length_eq_zero_iff.1 ha.1
     obtain rfl:=List.length_eq_zero_iff.1 hb.1
     simp [cmpL],fun a b d ha _ _ _ _=>by
     obtain rfl:=List.length_eq_zero_iff.1 ha.1
     simp [cmpL]⟩
 | m + 1 => by
   have ih:=cmpL_on h m
   have split:∀ l:List Tm,l.length=m+1∧(∀ t,t∈l→t.size≤N)→∃ a r,l=a :: r∧a.size≤N∧r.length=m∧∀ t,t∈r→t.size≤N:=fun l hl=>by
    cases l with
    | nil=>simp at hl
    | cons a r=>exact ⟨a,r,rfl,hl.2 a List.mem_cons_self,by simpa using hl.1,fun t ht=>hl.2 t (List.mem_cons_of_mem _ ht)⟩
   refine ⟨fun x y hx hy=> ?_,fun x y z hx hy hz h1 h2=> ?_⟩
   · obtain ⟨a, r, rfl, a1, a2⟩ := split x hx
     obtain ⟨b,s,rfl,b1,b2⟩:=split y hy
     simp only [cmpL]
     exact thn_neg (h.anti a b a1 b1) (ih.anti r s a2 b2)
   · obtain ⟨a, r, rfl, a1, a2⟩ := split x hx
     obtain ⟨b,s,rfl,b1,b2⟩:=split y hy
     obtain ⟨d,u,rfl,d1,d2⟩:=split z hz
     simp only [cmpL] at h1 h2 ⊢
     exact h.then_le a1 b1 d1 (ih.tr r s u a2 b2 d2) h1 h2
theorem cmpI_zero {a b:Int} (h:cmpI a b=0):a=b:=by
 simp only [cmpI] at h
 split at h
 · omega
 · split at h <;> omega
theorem cmp_on:∀ N:Nat,CmpOn (fun t:Tm=>t.size≤N) Tm.cmp
 | 0=>⟨fun a b ha _=>by have:=size_pos a;omega,fun a b d ha _ _ _ _=>by have:=size_pos a;omega⟩
 | N + 1 => by
   have hL:=cmpL_on (cmp_on N)
   have kid:∀ {k:Int} {nm:List UInt8} {s:Int} {b:Bool} {l:List Tm},(Tm.mk k nm s b l).size≤N+1→∀ t,t∈l→t.size≤N:=fun h t ht=>by
    simp only [Tm.size] at h
    have:=size_le ht
    omega
   refine ⟨fun a b ha hb=> ?_,fun a b d ha hb hd h1 h2=> ?_⟩
   · obtain ⟨k, nm, s, n, l⟩ := a
     obtain ⟨k',nm',s',n',l'⟩:=b
     simp only [Tm.cmp]
     refine thn_neg (cmpI_on.anti _ _ trivial trivial) (thn_neg (cmpI_on.anti _ _ trivial trivial) (thn_neg (cmpB_on.anti _ _ trivial trivial) (thn_neg (cmpI_on.anti _ _ trivial trivial) ?_)))
     by_cases e:l.length=l'.length
     · exact thn_neg (cmpI_on.anti _ _ trivial trivial) ((hL l.length).anti l l' ⟨rfl,kid ha⟩ ⟨e.symm,kid hb⟩)
     · have h1 := cmpI_on.anti (l.length : Int) (l'.length : Int) trivial trivial
       have h2:cmpI (l.length:Int) (l'.length:Int)≠0:=fun h=>e (by have:=cmpI_zero h;omega)
       unfold thn
       rw [if_pos h2,if_pos (by omega),h1]
   · obtain ⟨k, nm, s, n, l⟩ := a
     obtain ⟨k',nm',s',n',l'⟩:=b
     obtain ⟨k2,nm2,s2,n2,l2⟩:=d
     simp only [Tm.cmp] at h1 h2 ⊢
     refine cmpI_on.then_le trivial trivial trivial (fun h1 h2=>cmpI_on.then_le trivial trivial trivial (fun h1 h2=>cmpB_on.then_le trivial trivial trivial (fun h1 h2=>cmpI_on.then_le trivial trivial trivial (fun h1 h2=> ?_) h1 h2) h1 h2) h1 h2) h1 h2
     by_cases e1:l.length=l'.length
     · by_cases e2 : l'.length = l2.length
       · exact cmpI_on.then_le trivial trivial trivial ((hL l.length).tr l l' l2 ⟨rfl,kid ha⟩ ⟨e1.symm,kid hb⟩ ⟨(e1.trans e2).symm,kid hd⟩) h1 h2
       · have h3 : cmpI (l'.length : Int) (l2.length : Int) ≠ 0 := fun h => e2 (by have := cmpI_zero h; omega)
         simp only [thn,if_pos h3] at h2
         rw [e1]
         simp only [thn,if_pos h3]
         exact h2
     · have h3 : cmpI (l.length : Int) (l'.length : Int) ≠ 0 := fun h => e1 (by have := cmpI_zero h; omega)
       simp only [thn,if_pos h3] at h1
       have h4:cmpI (l'.length:Int) (l2.length:Int)≤0:=by
        by_cases e:cmpI (l'.length:Int) (l2.length:Int)=0
        · omega
        · simp only [thn,if_pos e] at h2;exact h2
       have:=cmpI_on.strict1 (a:=(l.length:Int)) trivial trivial trivial (by omega) h4
       simp only [thn]
       rw [if_pos (by omega)];omega
end Go.Vm
namespace Go.Vm
mutual
def Tm.all:Tm→List Tm
 | .mk k nm s b kids=> .mk k nm s b kids :: allL kids
def allL:List Tm→List Tm
 | []=>[]
 | t :: r=>t.all ++ allL r
end
def Tm.knd:Tm→Int
 | .mk k _ _ _ _=>k
theorem allL_snoc {l:List Tm} {i:Nat} {t:Tm} (h:l[i]? = some t):allL (l.take (i+1))=allL (l.take i) ++ t.all:=by
 induction l generalizing i with
 | nil=>simp at h
 | cons a r ih =>
   cases i with
   | zero=>simp at h;subst h;simp [allL]
   | succ i=>simp at h;simp only [List.take_succ_cons,allL,ih h,List.append_assoc]
mutual
theorem Tm.all_len:∀ t:Tm,t.all.length=t.size
 | .mk k nm s b kids=>by have:=allL_len kids;simp only [Tm.all,Tm.size,List.length_cons];omega
theorem allL_len:∀ l:List Tm,(allL l).length=sizeL l
 | []=>rfl
 | t :: r=>by have:=t.all_len;have:=allL_len r;simp only [allL,sizeL,List.length_append];omega
end
theorem all_ok {t:Tm} (ht:t.Ok):∀ x,x∈t.all→x.Ok∧x.size≤t.size:=by
 induction ht with
 | @mk k nm s b kids hk hs hn hl hok ih =>
   have key:∀ l:List Tm,(∀ t,t∈l→t∈kids)→∀ x,x∈allL l→x.Ok∧x.size≤sizeL l:=by
    intro l
    induction l with
    | nil=>intro _ x hx;simp [allL] at hx
    | cons a r ih2 =>
      intro hl x hx
      simp only [allL,List.mem_append] at hx
      simp only [sizeL]
      rcases hx with hx | hx
      · have := ih a (hl a List.mem_cons_self) x hx
        exact ⟨this.1,by omega⟩
      · have := ih2 (fun t ht => hl t (List.mem_cons_of_mem _ ht)) x hx
        exact ⟨this.1,by omega⟩
   intro x hx
   simp only [Tm.all,List.mem_cons] at hx
   rcases hx with rfl | hx
   · exact ⟨.mk hk hs hn hl hok,Nat.le_refl _⟩
   · have := key kids (fun _ h => h) x hx
     simp only [Tm.size]
     exact ⟨this.1,by omega⟩
def kndL (k:Int) (l:List Tm):List Tm:=l.filter fun t=>decide (t.knd=k)
theorem kndL_snoc {k:Int} {l:List Tm} {i:Nat} {t:Tm} (h:l[i]? = some t):kndL k (l.take (i+1))=kndL k (l.take i) ++ if t.knd=k then [t] else []:=by
 simp only [kndL,List.take_add_one,h,Option.toList_some,List.filter_append]
 congr 1
 by_cases c:t.knd=k <;> simp [c]
theorem kndL_len (k:Int) (l:List Tm):(kndL k l).length≤l.length:=List.length_filter_le _ _
def addStep (t:Tm) (s:List Tm×Bool) (x:Tm):List Tm×Bool:=
 if s.2=false∧t.cmp x≤0 then ((s.1 ++ if t.cmp x < 0 then [t] else []) ++ [x],true) else (s.1 ++ [x],s.2)
def addL (l:List Tm) (t:Tm):List Tm:=match l.foldl (addStep t) ([],false) with
 | (o,true)=>o
 | (o,false)=>o ++ [t]
def setL (l:List Tm):List Tm:=l.foldl addL []
theorem foldl_snoc {α β:Type} {f:β→α→β} {b:β} {l:List α} {i:Nat} {x:α} (h:l[i]? = some x):(l.take (i+1)).foldl f b=f ((l.take i).foldl f b) x:=by
 simp [List.take_add_one,h,List.foldl_append]
def b01:Bool→Nat
 | true=>0
 | false=>1
theorem addStep_len (t:Tm) (s:List Tm×Bool) (x:Tm):(addStep t s x).1.length+b01 (addStep t s x).2≤s.1.length+b01 s.2+1:=by
 unfold addStep
 split
 · rename_i h
   rw [h.1]
   split <;> simp [b01]
 · simp;omega
theorem addFold_len (t:Tm):∀ (l:List Tm) (s:List Tm×Bool),(l.foldl (addStep t) s).1.length+b01 (l.foldl (addStep t) s).2≤s.1.length+b01 s.2+l.length
 | [],s=>by simp
 | x :: r, s => by
   have h1:=addFold_len t r (addStep t s x)
   have h2:=addStep_len t s x
   simp only [List.foldl_cons,List.length_cons]
   omega
theorem addL_len (l:List Tm) (t:Tm):(addL l t).length≤l.length+1:=by
 have:=addFold_len t l ([],false)
 unfold addL
 generalize l.foldl (addStep t) ([],false)=s at this
 obtain ⟨o,d⟩:=s
 cases d <;> simp [b01] at * <;> omega
theorem addFold_mem (t:Tm):∀ (l:List Tm) (s:List Tm×Bool) (x:Tm),x∈(l.foldl (addStep t) s).1→x∈s.1∨x∈l∨x=t
 | [],s,x,h=> .inl h
 | y :: r, s, x, h => by
   rcases addFold_mem t r (addStep t s y) x h with h1 | h1 | h1
   · unfold addStep at h1
     split at h1
     · split at h1
       · simp at h1; rcases h1 with h1 | h1 | h1
         · exact .inl h1
         · exact .inr (.inr h1)
         · exact .inr (.inl (by simp [h1]))
       · simp at h1; rcases h1 with h1 | h1
         · exact .inl h1
         · exact .inr (.inl (by simp [h1]))
     · simp at h1; rcases h1 with h1 | h1
       · exact .inl h1
       · exact .inr (.inl (by simp [h1]))
   · exact .inr (.inl (List.mem_cons_of_mem _ h1))
   · exact .inr (.inr h1)
theorem addL_mem {l:List Tm} {t x:Tm} (h:x∈addL l t):x∈l∨x=t:=by
 unfold addL at h
 have:=addFold_mem t l ([],false) x
 generalize l.foldl (addStep t) ([],false)=s at this h
 obtain ⟨o,d⟩:=s
 cases d with
 | true=>rcases this h with h | h | h <;> simp_all
 | false =>
   simp at h
   rcases h with h | h
   · rcases this h with h | h | h <;> simp_all
   · exact .inr h
theorem addFold_ne (t:Tm):∀ (l:List Tm) (s:List Tm×Bool),(s.1≠ []∨s.2=false)→((l.foldl (addStep t) s).1≠ []∨(l.foldl (addStep t) s).2=false)
 | [],_,h=>h
 | y :: r, s, _ => by
   refine addFold_ne t r (addStep t s y) (.inl ?_)
   unfold addStep
   split
   · split <;> simp
   · simp
theorem addL_ne (l:List Tm) (t:Tm):addL l t≠ []:=by
 unfold addL
 have:=addFold_ne t l ([],false) (.inr rfl)
 generalize l.foldl (addStep t) ([],false)=s at this
 obtain ⟨o,d⟩:=s
 cases d with
 | true=>simpa using this
 | false=>simp
theorem setFold_len:∀ (l o:List Tm),(l.foldl addL o).length≤o.length+l.length
 | [],o=>by simp
 | x :: r, o => by
   have:=setFold_len r (addL o x)
   have:=addL_len o x
   simp only [List.foldl_cons,List.length_cons]
   omega
theorem setFold_mem:∀ (l o:List Tm) (x:Tm),x∈l.foldl addL o→x∈o∨x∈l
 | [],o,x,h=> .inl h
 | y :: r, o, x, h => by
   rcases setFold_mem r (addL o y) x h with h | h
   · rcases addL_mem h with h | h
     · exact .inl h
     · exact .inr (by simp [h])
   · exact .inr (List.mem_cons_of_mem _ h)
theorem setFold_ne:∀ (l o:List Tm),o≠ []→l.foldl addL o≠ []
 | [],_,h=>h
 | x :: r,o,_=>setFold_ne r (addL o x) (addL_ne o x)
theorem setL_nil {l:List Tm}:setL l= []↔l= []:=by
 cases l with
 | nil=>simp [setL]
 | cons a r=>simp only [setL,List.foldl_cons,reduceCtorEq,iff_false];exact setFold_ne r _ (addL_ne [] a)
def Tm.ground (t:Tm):Bool:=(kndL 1 t.all).isEmpty
def Tm.fre1:Tm→Bool
 | .mk k nm _ _ _=>if k=3 then fNmB nm else true
mutual
theorem Tm.fre_all:∀ t:Tm,t.fre=t.all.all Tm.fre1
 | .mk k nm s b kids=>by have:=freL_all kids;simp only [Tm.fre,Tm.all,List.all_cons,Tm.fre1,this]
theorem freL_all:∀ l:List Tm,freL l=(allL l).all Tm.fre1
 | []=>rfl
 | t :: r=>by have:=t.fre_all;have:=freL_all r;simp only [freL,allL,List.all_append, *]
end
def Tm.key (t:Tm):Int:=if t.valid≠0 then t.valid else if t.th≠0 then t.th else if t.ground=false then 13 else if t.fre=false then 10 else 0
mutual
def Tm.cl:Tm→Tm
 | .mk k nm s _ kids=> .mk k nm s true (clL kids)
def clL:List Tm→List Tm
 | []=>[]
 | t :: r=>t.cl :: clL r
end
theorem clL_map (l:List Tm):clL l=l.map Tm.cl:=by
 induction l with
 | nil=>rfl
 | cons a r ih=>simp [clL,ih]
theorem cl_len (l:List Tm):(clL l).length=l.length:=by rw [clL_map,List.length_map]
theorem clL_snoc {l:List Tm} {i:Nat} {t:Tm} (h:l[i]? = some t):clL (l.take (i+1))=clL (l.take i) ++ [t.cl]:=by
 simp [clL_map,List.take_add_one,h]
end Go.Vm
namespace Go.Vm
def tokOf:PV→Option Nat
 | .sl (.tok k) _ _=>some k
 | _=>none
inductive ApV (b:Bool) (es:Nat):List (List PV)→PV→List Nat→Nat→Prop
 | nil (lv:List Nat) (nt:Nat) (h:b=true):ApV b es [] .nils lv nt
 | full (L:List (List PV)) (lv:List Nat) (nt:Nat) (h:b=false) (hB:noB L=true):ApV b es L (.sl .full es L) lv nt
 | tok (L:List (List PV)) (k:Nat) (lv:List Nat) (nt:Nat) (hL:L≠ []) (hk:k∈lv) (hn:k < nt) (hB:noB L=true):ApV b es L (.sl (.tok k) es L) lv nt
theorem noB_append {L M:List (List PV)} (h:noB L=true) (h2:noB M=true):noB (L ++ M)=true:=by
 simp only [noB,List.all_append,Bool.and_eq_true] at h h2 ⊢
 exact ⟨h,h2⟩
theorem eraseTok_mem:∀ {l:List Nat} {k:Nat},k∈l→∃ l',eraseTok k l=some l'∧∀ j,j∈l→j≠k→j∈l'
 | x :: r, k, h => by
   simp only [eraseTok]
   by_cases e:x=k
   · rw [if_pos e]
     refine ⟨r,rfl,fun j hj hn=> ?_⟩
     rcases List.mem_cons.1 hj with e2 | hj
     · exact absurd (e2.trans e) hn
     · exact hj
   · rw [if_neg e]
     have hr:k∈r:=by
      rcases List.mem_cons.1 h with e2 | h
      · exact absurd e2.symm e
      · exact h
     obtain ⟨l',h1,h2⟩:=eraseTok_mem hr
     rw [h1]
     refine ⟨x :: l',rfl,fun j hj hn=> ?_⟩
     rcases List.mem_cons.1 hj with e2 | hj
     · rw [e2];exact List.mem_cons_self
     · exact List.mem_cons_of_mem _ (h2 j hj hn)
theorem ApV.under {b:Bool} {es:Nat} {L:List (List PV)} {out:PV} {lv:List Nat} {nt:Nat} (h:ApV b es L out lv nt) (n:Nat):under n out=true:=by
 cases h <;> rfl
theorem ApV.frz1 {b:Bool} {es:Nat} {L:List (List PV)} {out:PV} {lv:List Nat} {nt:Nat} (h:ApV b es L out lv nt):frz1 out=some (slV b es L):=by
 cases h with
 | nil lv nt h=>subst h;rw [slV_nil_true];rfl
 | full L lv nt h =>
   subst h
   cases L with
   | nil=>rw [slV_nil_false];rfl
   | cons c r=>rw [slV_cons];rfl
 | tok L k lv nt hL =>
   cases L with
   | nil=>exact absurd rfl hL
   | cons c r=>rw [slV_cons];rfl
theorem ApV.frzC {b:Bool} {es:Nat} {L:List (List PV)} {out:PV} {lv:List Nat} {nt:Nat} (h:ApV b es L out lv nt) (m:Nat) (H:Heap):frzC m H out=some (slV b es L):=by
 have h1:=h.frz1
 cases h <;> exact h1
theorem ApV.frz2 {b:Bool} {es:Nat} {L:List (List PV)} {out:PV} {lv:List Nat} {nt:Nat} (h:ApV b es L out lv nt) (m:Nat) (H:Heap):frz2 m H out=some (slV b es L):=by
 have h1:=h.frz1
 cases h <;> exact h1
theorem ApV.frz3 {b:Bool} {es:Nat} {L:List (List PV)} {out:PV} {lv:List Nat} {nt:Nat} (h:ApV b es L out lv nt) (m:Nat) (H:Heap):frz3 m H out=some (slV b es L):=by
 have h1:=h.frz1
 cases h <;> exact h1
theorem ApV.frzG {b:Bool} {es:Nat} {L:List (List PV)} {out:PV} {lv:List Nat} {nt:Nat} (h:ApV b es L out lv nt):frzG out=some (slV b es L):=by
 have h1:=h.frz1
 cases h <;> exact h1
theorem ApV.argV {b:Bool} {es:Nat} {L:List (List PV)} {out:PV} {lv:List Nat} {nt:Nat} (h:ApV b es L out lv nt):argV out=slV b es L:=by
 cases h with
 | nil lv nt h=>subst h;rw [slV_nil_true];rfl
 | full L lv nt h => subst h; cases L with
   | nil=>rw [slV_nil_false];rfl
   | cons c r=>rw [slV_cons];rfl
 | tok L k lv nt hL => cases L with
   | nil=>exact absurd rfl hL
   | cons c r=>rw [slV_cons];rfl
structure ElV (es:Nat) (x:PV) (el:List (List PV)):Prop where
 el:∀ H,slElems H x=some el
 size:slSize es x=es
theorem ElV.slV (b:Bool) (es:Nat) (el:List (List PV)):ElV es (slV b es el) el:=by
 cases el with
 | nil => cases b
          · rw [slV_nil_false];exact ⟨fun _=>rfl,rfl⟩
          · rw [slV_nil_true];exact ⟨fun _=>rfl,rfl⟩
 | cons c r=>rw [slV_cons];exact ⟨fun _=>rfl,rfl⟩
theorem ElV.sl (tl:Tail) (es:Nat) (el:List (List PV)):ElV es (.sl tl es el) el:=⟨fun _=>rfl,rfl⟩
theorem ElV.nils (es:Nat):ElV es .nils []:=⟨fun _=>rfl,rfl⟩
section
variable {E:Env}
structure ApT (E:Env) (t u:TypeId) (es by_:Nat):Prop where
 h:∃ ti ui e f ei,E.T t=some ti∧E.T u=some ui∧ti.tk= .slice e∧ui.tk= .slice f∧E.T e=some ei∧ei.size=es∧ei.bytes=by_∧0 < ei.size∧ei.zero.cells.length=ei.size
theorem apElems_of {t u : TypeId} {es by_ : Nat} (hT : ApT E t u es by_) {s x : PV} {el : List (List PV)} (hx : ElV es x el) (hok : el.all (fun c => c.all cellOk) = true) (hs : slSize es s = es) (ho : slOk s = true) (H : Heap) :
  apElems E t u s x H=some (es,by_,el):=by
 obtain ⟨ti,ui,e,f,ei,h1,h2,h3,h4,h5,h6,h7,h8,h9⟩:=hT.h
 simp only [apElems,h1,h2,h3,h4,h5]
 subst h6 h7
 rw [if_pos ⟨h8,h9,hs,hx.size⟩,hx.el H]
 simp only [hok,ho,and_self,if_true]
theorem ApV.app {b : Bool} {es : Nat} {L : List (List PV)} {out : PV} {lv : List Nat} {nt : Nat} (h : ApV b es L out lv nt) {t u : TypeId} {by_ : Nat} (hT : ApT E t u es by_) {x : PV} {el : List (List PV)} (hx : ElV es x el)
  (hok:el.all (fun c=>c.all cellOk)=true) (hf:apFits L.length el.length by_=true) (hnb:noB el=true) :
  ∃ out' lv' nt',(∀ bx ro,aAppend E t u out x ⟨bx,ro,lv,nt⟩=some (out',⟨bx,ro,lv',nt'⟩))∧ApV b es (L ++ el) out' lv' nt'∧
   ∀ b2 es2 L2 out2,ApV b2 es2 L2 out2 lv nt→(tokOf out2=none∨tokOf out2≠tokOf out)→ApV b2 es2 L2 out2 lv' nt'∧(tokOf out2=none∨tokOf out2≠tokOf out'):=by
 have hs:slSize es out=es:=by cases h <;> rfl
 have ho:slOk out=true:=by cases h <;> rfl
 cases el with
 | nil =>
   refine ⟨out,lv,nt,fun bx ro=> ?_,by rw [List.append_nil];exact h,fun b2 es2 L2 out2 h2 hne=>⟨h2,hne⟩⟩
   simp only [aAppend,apElems_of hT hx hok hs ho]
 | cons y yr =>
   have fresh:∀ (lv':List Nat),(∀ j,j∈lv→some j≠tokOf out→j∈lv')→∀ b2 es2 L2 out2,ApV b2 es2 L2 out2 lv nt→(tokOf out2=none∨tokOf out2≠tokOf out)→ApV b2 es2 L2 out2 (nt :: lv') (nt+1)∧(tokOf out2=none∨tokOf out2≠tokOf (.sl (.tok nt) es (L ++ y :: yr))):=fun lv' hl b2 es2 L2 out2 h2 hne=>by
    cases h2 with
    | nil _ _ hb=>exact ⟨.nil _ _ hb,.inl rfl⟩
    | full _ _ _ hb hB=>exact ⟨.full _ _ _ hb hB,.inl rfl⟩
    | tok _ k _ _ hL hk hn hB =>
      have hne2:some k≠tokOf out:=by
       rcases hne with h | h
       · simp [tokOf] at h
       · exact h
      refine ⟨.tok _ k _ _ hL (List.mem_cons_of_mem _ (hl k hk hne2)) (by omega) hB,.inr ?_⟩
      simp only [tokOf,ne_eq,Option.some.injEq]
      omega
   cases h with
   | nil _ _ hb =>
     refine ⟨.sl (.tok nt) es (y :: yr),nt :: lv,nt+1,fun bx ro=> ?_,.tok _ nt _ _ (by simp) List.mem_cons_self (Nat.lt_succ_self _) hnb,fresh lv fun j hj _=>hj⟩
     simp only [aAppend,apElems_of hT hx hok hs ho,slFull,List.nil_append]
     exact if_pos (by rw [hf,tokB_of hnb];rfl)
   | full _ _ _ hb hB =>
     refine ⟨.sl (.tok nt) es (L ++ y :: yr),nt :: lv,nt+1,fun bx ro=> ?_,.tok _ nt _ _ (by simp) List.mem_cons_self (Nat.lt_succ_self _) (noB_append hB hnb),fresh lv fun j hj _=>hj⟩
     simp only [aAppend,apElems_of hT hx hok hs ho,slFull]
     rw [if_pos (by rw [hf,tokB_of (noB_append hB hnb)];rfl)]
   | tok _ k _ _ hL hk hn hB =>
     obtain ⟨l',h1,h2⟩:=eraseTok_mem hk
     refine ⟨.sl (.tok nt) es (L ++ y :: yr),nt :: l',nt+1,fun bx ro=> ?_,.tok _ nt _ _ (by simp) List.mem_cons_self (Nat.lt_succ_self _) (noB_append hB hnb),fresh l' fun j hj hne=>h2 j hj fun e=>hne (by rw [e];rfl)⟩
     simp only [aAppend,apElems_of hT hx hok hs ho]
     rw [if_pos (by rw [hf,tokB_of (noB_append hB hnb),hnb,Bool.or_true];rfl),h1]
end
end Go.Vm
namespace Go.Vm
open Go.RowKit
section
variable {T:TypeId→Option TI}
theorem sh_int {x:TypeId} {cs:List PV} (h:Sh T x cs) {ti:TI} {k:IntKind} (ht:T x=some ti) (hk:ti.tk= .int k):∃ n,cs= [.int k n]∧(Lit.int k n).wf=true:=by
 cases h with
 | int h' hk' hn=>rw [ht] at h';cases h';rw [hk] at hk';cases hk';exact ⟨_,rfl,hn⟩
 | bool h' hk'=>rw [ht] at h';cases h';rw [hk] at hk';cases hk'
 | str h' hk'=>rw [ht] at h';cases h';rw [hk] at hk';cases hk'
 | nils h' hk'=>rw [ht] at h';cases h';rw [hk] at hk';cases hk'
 | sl h' hk'=>rw [ht] at h';cases h';rw [hk] at hk';cases hk'
 | struct h' hk'=>rw [ht] at h';cases h';rw [hk] at hk';cases hk'
theorem slV_false (es:Nat) (el:List (List PV)):slV false es el= .sl .none es el:=by
 cases el with
 | nil=>exact slV_nil_false es
 | cons c r=>exact slV_cons false es c r
end
section
variable {E:Env} {P:Program} {w:World}
theorem same_of {w':World} (h:∀ k,k < w.heap.size→w'.heap[k]? = w.heap[k]?) {p:MemPlace} (hp:p.block < w.heap.size):w.sameAt w' p:=by
 cases p with
 | cell b o=>exact World.cell?_of_block (w:=w) (h b hp)
 | map b=>exact h b hp
end
end Go.Vm
namespace Go.Vm
abbrev Byts:=List UInt8
def strC (l:List Byts):List (List PV):=l.map fun s=>[.str s]
theorem strC_len (l:List Byts):(strC l).length=l.length:=by simp [strC]
theorem strC_get {l:List Byts} {i:Nat} {x:Byts} (h:l[i]? = some x):(strC l)[i]? = some [.str x]:=by simp [strC,h]
structure Mo where
 kind:Int
 num:Int
 role:Int
 an:Bool
 agents:List Byts
 goal:Int
 tn:Bool
 terms:List Tm
def Mo.cells (m:Mo):List PV:=[.int .i64 m.kind,.int .i64 m.num,.int .i64 m.role,slV m.an 1 (strC m.agents),.int .i64 m.goal,slV m.tn 4 (cellsL m.terms)]
structure Mo.Ok (m:Mo):Prop where
 kind:(Lit.int .i64 m.kind).wf=true
 num:(Lit.int .i64 m.num).wf=true
 role:(Lit.int .i64 m.role).wf=true
 goal:(Lit.int .i64 m.goal).wf=true
 al:m.agents.length≤maxLen
 ags:∀ s,s∈m.agents→s.length≤maxLen
 tl:m.terms.length≤maxLen
 ts:∀ t,t∈m.terms→t.Ok
theorem cellsL_append (a b:List Tm):cellsL (a ++ b)=cellsL a ++ cellsL b:=by simp [cellsL_eq]
theorem cellsL_cellOk (l:List Tm):(cellsL l).all (fun c=>c.all cellOk)=true:=by
 rw [cellsL_eq,List.all_map,List.all_eq_true]
 rintro ⟨k,nm,s,b,kids⟩ _
 simp only [Function.comp,Tm.cells,List.all_cons,List.all_nil,cellOk_slV]
 rfl
end Go.Vm
namespace Go.Vm
open Go.RowKit Go.Sort Go.Proofs
def gtT (l:List Tm) (i:Nat):Tm:=(l[i]?).getD (l.headD .zero)
theorem gtT_lt {l:List Tm} {i:Nat} (h:i < l.length):gtT l i=l[i]:=by simp [gtT,h]
theorem gtT_mem {l:List Tm} (hne:l≠ []) (i:Nat):gtT l i∈l:=by
 unfold gtT
 cases h:l[i]? with
 | some x=>exact List.mem_of_getElem? h
 | none => cases l with
   | nil=>exact absurd rfl hne
   | cons a r=>simp
def ixCmp (l:List Tm) (i j:Nat):Int:=(gtT l i).cmp (gtT l j)
def sortIx (l:List Tm):Array Nat:=pdq (ltOf (ixCmp l)) (Array.range l.length) 0 l.length (Lib.bitLen l.length) true true
def sortF (l:List Tm):List Tm:=(sortIx l).toList.map (gtT l)
theorem ltOf_iff {c:Nat→Nat→Int} {x y:Nat}:ltOf c x y=true↔c x y < 0:=by unfold ltOf;exact decide_eq_true_iff
theorem ltOf_not {c:Nat→Nat→Int} {x y:Nat}:ltOf c x y=false↔0≤c x y:=by
 rw [← Bool.not_eq_true,ltOf_iff];omega
theorem ixSWO {l:List Tm} (hne:l≠ []) {N:Nat} (h:∀ t,t∈l→t.size≤N):SWO (ltOf (ixCmp l)) where
 irrefl x:=by
  have hx:=h _ (gtT_mem hne x)
  have:=(cmp_on N).anti _ _ hx hx
  rw [ltOf_not]
  simp only [ixCmp]
  omega
 trans x y z h1 h2:=by
  rw [ltOf_iff] at *
  simp only [ixCmp] at *
  exact (cmp_on N).strict1 (h _ (gtT_mem hne x)) (h _ (gtT_mem hne y)) (h _ (gtT_mem hne z)) h1 (by omega)
 ntrans x y z h1 h2:=by
  rw [ltOf_not] at *
  simp only [ixCmp] at *
  have a1:=(cmp_on N).anti _ _ (h _ (gtT_mem hne x)) (h _ (gtT_mem hne y))
  have a2:=(cmp_on N).anti _ _ (h _ (gtT_mem hne y)) (h _ (gtT_mem hne z))
  have a3:=(cmp_on N).anti _ _ (h _ (gtT_mem hne x)) (h _ (gtT_mem hne z))
  have:=(cmp_on N).tr _ _ _ (h _ (gtT_mem hne z)) (h _ (gtT_mem hne y)) (h _ (gtT_mem hne x)) (by omega) (by omega)
  omega
theorem sortIx_spec {l:List Tm} (hne:l≠ []) {N:Nat} (h:∀ t,t∈l→t.size≤N):PermIn 0 l.length (Array.range l.length) (sortIx l)∧SortedIn (ltOf (ixCmp l)) 0 l.length (sortIx l):=
 pdq_sorts (ltOf (ixCmp l)) (ixSWO hne h) (Array.range l.length) 0 l.length (Lib.bitLen l.length) true true (Nat.zero_le _) (by simp) (.inl rfl)
theorem sortIx_size {l:List Tm} (hne:l≠ []) {N:Nat} (h:∀ t,t∈l→t.size≤N):(sortIx l).size=l.length:=by simpa using (sortIx_spec hne h).1.1
theorem range_map_gtT (l:List Tm):(List.range l.length).map (gtT l)=l:=by
 apply List.ext_getElem
 · simp
 · intro i h1 h2;simp [gtT_lt h2]
theorem sortF_perm {l:List Tm} (hne:l≠ []) {N:Nat} (h:∀ t,t∈l→t.size≤N):(sortF l).Perm l:=by
 have h1:=(sortIx_spec hne h).1.2.2
 have h2:=sortIx_size hne h
 have e1:((sortIx l).extract 0 l.length).toList=(sortIx l).toList:=by rw [← h2];simp
 have e2:((Array.range l.length).extract 0 l.length).toList=List.range l.length:=by simp
 rw [e1,e2] at h1
 have:=h1.map (gtT l)
 rwa [range_map_gtT] at this
theorem grow_of {W w' : World} (hh : ∀ k, k < W.heap.size → w'.heap[k]? = W.heap[k]?) (hs : W.heap.size ≤ w'.heap.size) (h1 : w'.os = W.os) (h2 : w'.output = W.output) (h3 : w'.tape = W.tape) (h4 : W.drawn ≤ w'.drawn) :
  ∃ q os',w'=grow (W.drewN q) os':=by
 refine ⟨w'.drawn - W.drawn,w'.heap.extract W.heap.size w'.heap.size,?_⟩
 have hheap:w'.heap=W.heap ++ w'.heap.extract W.heap.size w'.heap.size:=by
  refine Array.ext_getElem? fun k=> ?_
  rw [Array.getElem?_append]
  split
  · rename_i h;exact hh k h
  · rename_i h
    rw [Array.getElem?_extract]
    split
    · congr 1;omega
    · rw [Array.getElem?_eq_none (by omega)]
 have hd:(W.drewN (w'.drawn - W.drawn)).drawn=w'.drawn:=by
  have:(W.drewN (w'.drawn - W.drawn)).drawn=W.drawn+(w'.drawn - W.drawn):=rfl
  omega
 obtain ⟨a,b,c,d,e⟩:=w'
 simp only at h1 h2 h3 h4 hheap hd
 subst h1 h2 h3
 have:(grow (W.drewN (c - W.drawn)) (a.extract W.heap.size a.size))=⟨W.heap ++ a.extract W.heap.size a.size,W.tape,W.drawn+(c - W.drawn),W.os,W.output⟩:=rfl
 rw [this, ← hheap]
 congr 1
 omega
section
variable {E E1:Env} {P:Program}
def wGm (w:World):Gh:={S:=wS w,σ:=fun _=>none,τ:=fun _=>none,κ:=fun _=>0,mono:=true}
theorem wGm_inv (w:World):Inv (wGm w) hNil w:=by
 have h:=wG_inv w
 exact ⟨h.st,fun id es el h=>by simp [hNil] at h,fun id es h=>by simp [hNil] at h,fun id T cs h=>by simp [hNil] at h,fun i j b h=>(nil_live h).elim,fun _ _=>rfl,fun _ _=>rfl,fun t b lo hi h=>by simp [hNil] at h,fun t t' b lo hi lo' hi2 h=>by simp [hNil] at h,List.nodup_nil,fun t h=>by simp [hNil] at h,fun id b h=>by simp [wGm] at h,Nat.le_refl _,fun id b c T m h=>(nil_live h).elim⟩
theorem calls_grow {f : FuncId} {fn : Func} {c : Code} (hf : FnOk P f fn c) {W : World} (hG : GOk E1 (wGm W)) {args : List PV} {k : IntKind} {n : Int} (h : CallOk E1 P f args hNil (.int k n) hNil) {vals : Array Value} (hv : CellsOf (wS W) args vals.toList) :
  Calls P f vals W fun e w'=>e= .returned (.int k n)∧∃ q os',w'=grow (W.drewN q) os':=by
 have hu:=h (wGm W) W vals (wGm_inv W) hG ⟨hv.1,fun i h1 h2=> .pure _ _ (hv.2 i h1 h2)⟩
 rw [callFunc_enter hf] at hu
 exact Calls.mono hu fun e w' ⟨v,e1,g',hp,_,kp⟩=>by
  obtain rfl:=hp.int_inv
  exact ⟨e1,grow_of (fun i hi=>kp.heap i hi (nil_shut _ i)) kp.size kp.so.1 kp.so.2.1 kp.so.2.2.1 (kp.so.2.2.2 rfl)⟩
theorem V.fn0_inv {g:Gh} {f:FuncId} {v:Value} (h:V g (.fn f []) v):v= .func (.func f) #[] #[]:=by
 cases h with
 | pure _ _ h => cases h with
   | fn _ _ vs hl _ =>
     have:vs= #[]:=Array.size_eq_zero_iff.1 hl
     rw [this]
 | fn _ _ vs hl _ =>
   have:vs= #[]:=Array.size_eq_zero_iff.1 hl
   rw [this]
theorem tm_cellOk (t:Tm):t.cells.all cellOk=true:=by
 obtain ⟨k,nm,s,b,kids⟩:=t
 simp only [Tm.cells,List.all_cons,List.all_nil,cellOk_slV]
 rfl
theorem tm_frz1 {t:Tm} {p:PV} (h:p∈t.cells):frz1 p=some p:=by
 obtain ⟨k,nm,s,b,kids⟩:=t
 simp only [Tm.cells,List.mem_cons,List.not_mem_nil,or_false] at h
 rcases h with rfl | rfl | rfl | rfl
 · rfl
 · rfl
 · rfl
 · exact frz1_slV _ _ _
theorem sort_ok {f g : FuncId} {fn fng : Func} {c cg : Code} (hf : FnOk P f fn c) (hfg : FnOk P g fng cg) (hG1 : E1.G = E.G ∧ E1.I = E.I) (hm1 : E1.mono = true)
  (hK : ∀ (enc : Nat → List Value) (_ : ∀ x, (enc x).length = 4) (_ : ∀ x, ∀ v ∈ enc x, v.oneCell' = true) (cf : Nat → Nat → Int) (_ : SWO (ltOf cf)) (blk off cap : Nat) (d : Array Nat) (w : World)
    (_:∀ args w,(callFunc g args).run P w= .ok (.enter g args) w) (_:CmpLays P g #[] enc 4 cf blk off d.size w) (_:HoldsK enc 4 w blk off d) (_:blk < w.heap.size) (_:d.size < 4611686018427387904),
    Calls P f #[.slice (some ⟨blk,off,none⟩) d.size cap,.func (.func g) #[] #[]] w fun e w'=>
     e= .returned (.tuple #[])∧∃ n os,w'=sortWorldK enc 4 w blk off n (pdq (ltOf cf) d 0 d.size (Lib.bitLen d.size) true true) os)
  {l:List Tm} (hne:l≠ []) {N:Nat} (hsz:∀ t,t∈l→t.size≤N) (hcmp:∀ a b,a∈l→b∈l→CallOk E1 P g [.agg a.cells,.agg b.cells] hNil (.int .i64 (a.cmp b)) hNil) (hlen:l.length < 4611686018427387904)
  {H:Heap} {id:Nat} (hb:H.bx[id]? = some (.cells 4 (cellsL l))) (hro:H.ro≤id) :
  CallOk E P f [.own id 4 0 l.length,.fn g []] H (.tup []) {H with bx:=H.bx.set id (.cells 4 (cellsL (sortF l)))}:=by
 intro gh w vals hi hg hv
 obtain ⟨v0,v1,rfl,e0,e1⟩:=two_vals hv
 have hpos:0 < l.length:=List.length_pos_iff.2 hne
 obtain ⟨b,cap,a,hσ,hcap,ha,_,hκ,rfl⟩:=e0.own_inv2
 obtain rfl:=ha (.inl hpos)
 obtain rfl:=e1.fn0_inv
 obtain ⟨b',C,T,h1,hheap,hw4,hsize,hcell,hS⟩:=hi.bx _ _ _ hb
 rw [hσ] at h1;cases h1
 rw [cellsL_length] at hsize
 have hbl:=hi.sz _ _ hσ
 have cl4:∀ (t:Tm),t.cells.length=4:=fun ⟨_,_,_,_,_⟩=>rfl
 have hget:∀ i (h:i < l.length) j,j < 4→∃ v p,C[i * 4+j]? = some v∧l[i].cells[j]? = some p∧V0 gh.S p v:=fun i h j hj=>by
  have hel:i < (cellsL l).length:=by rw [cellsL_length];exact h
  have ee:(cellsL l)[i]=l[i].cells:=by simp [cellsL_eq]
  have hjl:j < ((cellsL l)[i]).length:=by rw [ee,cl4];exact hj
  obtain ⟨v,hv1,hv2⟩:=hcell i hel j hjl
  have hg1:l[i].cells[j]? = some ((cellsL l)[i][j]):=by rw [← ee];exact List.getElem?_eq_getElem hjl
  exact ⟨v,_,hv1,hg1,frz1_ok hv2 (tm_frz1 (List.mem_of_getElem? hg1))⟩
 let ixc:Nat→Nat:=fun i=>if i < l.length then i else 0
 have ixl:∀ i,ixc i < l.length:=fun i=>by simp only [ixc];split <;> assumption
 have ixg:∀ i,gtT l i=l[ixc i]'(ixl i):=fun i=>by
  by_cases e:i < l.length
  · have : ixc i = i := by simp [ixc, e]
    simp only [this,gtT_lt e]
  · have : ixc i = 0 := by simp [ixc, e]
    simp only [this]
    unfold gtT
    rw [List.getElem?_eq_none (by omega)]
    cases l with
    | nil=>exact absurd rfl hne
    | cons a r=>rfl
 let enc:Nat→List Value:=fun i=>(List.range 4).map fun j=>C.getD (ixc i * 4+j) undef
 have encl:∀ x,(enc x).length=4:=fun x=>by simp [enc]
 have encg:∀ x j,j < 4→∃ v p,C[ixc x * 4+j]? = some v∧(enc x)[j]? = some v∧(gtT l x).cells[j]? = some p∧V0 gh.S p v:=fun x j hj=>by
  obtain ⟨v,p,q1,q2,q3⟩:=hget (ixc x) (ixl x) j hj
  refine ⟨v,p,q1,?_,by rw [ixg x];exact q2,q3⟩
  have:C.getD (ixc x * 4+j) undef=v:=by
   simp only [Array.getD_eq_getD_getElem?,q1,Option.getD_some]
  simp only [enc,List.getElem?_map,List.getElem?_range hj,Option.map_some,this]
 have enc1:∀ x,∀ v∈enc x,v.oneCell'=true:=fun x v hvx=>by
  obtain ⟨j,hj,rfl⟩:=List.mem_iff_getElem.1 hvx
  rw [encl] at hj
  obtain ⟨v,p,q1,q2,q3,q4⟩:=encg x j hj
  rw [List.getElem?_eq_getElem (by rw [encl];exact hj)] at q2
  simp only [Option.some.injEq] at q2
  rw [q2]
  exact cellOk_one (g:=gh) (.pure _ _ q4) (List.all_eq_true.1 (tm_cellOk (gtT l x)) _ (List.mem_of_getElem? q3))
 have hflat:∀ (d:Array Nat) t,t < d.size * 4→(flatK enc 4 d)[t]! = C.getD (ixc d[t / 4]! * 4+t % 4) undef:=fun d t ht=>by
  rw [get_flatK _ _ _ t ht]
  obtain ⟨v,_,q1,q2,_⟩:=encg d[t / 4]! (t % 4) (Nat.mod_lt _ (by omega))
  have:(enc d[t / 4]!)[t % 4]! = v:=by
   rw [List.getElem!_eq_getElem?_getD,q2];rfl
  rw [this,Array.getD_eq_getD_getElem?,q1];rfl
 have hH:HoldsK enc 4 w b 0 (Array.range l.length):=fun j hj=>by
  have hj':j < l.length * 4:=by simpa using hj
  have hjc:j < C.size:=by omega
  have hq:j / 4 < l.length:=by omega
  have e:(flatK enc 4 (Array.range l.length))[j]! = C[j]:=by
   rw [hflat _ j (by simpa using hj')]
   have r:(Array.range l.length)[j / 4]! = j / 4:=by
    rw [getElem!_pos _ _ (by simpa using hq)];simp
   rw [r]
   have:ixc (j / 4)=j / 4:=by simp [ixc,hq]
   rw [this,show j / 4 * 4+j % 4=j by omega]
   simp [Array.getD,hjc]
  refine ⟨?_,?_⟩
  · rw [Nat.zero_add, e]
    simp [World.cell?,hheap,hjc]
  · simp [World.frozen?,hheap]
 have Wcell:∀ (m:Nat) (os:Array Obj) (dk:Array Nat) b' o v,gh.S b' o=some v→(sortWorldK enc 4 w b 0 m dk os).cell? ⟨b',o,none⟩=some v:=fun m os dk b' o v hs=>by
  have hb':b'≠b:=fun e=>by subst e;rw [hS] at hs;cases hs
  have hlt:=hi.S_lt hs
  have hst:=hi.st _ _ _ hs
  have hp:(putRowK enc 4 (Sort.ahead w m) b 0 dk).cell? ⟨b',o,none⟩=some v:=by
   unfold putRowK
   rw [cell?_putRow_other _ _ _ _ _ _ (.inl hb')]
   exact hst
  unfold sortWorldK grow
  simp only [World.cell?] at hp ⊢
  rw [Array.getElem?_append_left (by unfold putRowK;rw [Go.Proofs.size_putRow];exact hlt)]
  exact hp
 have hC:CmpLays P g #[] enc 4 (ixCmp l) b 0 (Array.range l.length).size w:=fun m os dk _ x y=>by
  have hgo:GOk E1 (wGm (sortWorldK enc 4 w b 0 m dk os)):=⟨fun k cs hk=>(hg.1 k cs (by rw [← hG1.1];exact hk)).mono fun b' o v hs=>Wcell m os dk b' o v hs,fun _=>hm1,fun k hk=>let ⟨t,p,e⟩:=hg.2.2 k (by rw [← hG1.2];exact hk);⟨t,p,Wcell m os dk _ _ _ e⟩⟩
  have agg:∀ z,V0 (wS (sortWorldK enc 4 w b 0 m dk os)) (.agg (gtT l z).cells) (.agg (enc z).toArray):=fun z=>
   .agg _ _ (by simp [encl,cl4]) fun i hi'=>by
    rw [cl4] at hi'
    obtain ⟨v,p,_,q2,q3,q4⟩:=encg z i hi'
    have e1:(enc z).toArray[i]'(by simp [encl];exact hi')=v:=by
     rw [List.getElem?_eq_getElem (by rw [encl];exact hi')] at q2
     simpa using q2
    have e2:(gtT l z).cells[i]'(by rw [cl4];exact hi')=p:=by
     rw [List.getElem?_eq_getElem (by rw [cl4];exact hi')] at q3
     simpa using q3
    rw [e1,e2]
    exact q4.mono fun b' o v hs=>Wcell m os dk b' o v hs
  have:=calls_grow hfg hgo (hcmp _ _ (gtT_mem hne x) (gtT_mem hne y)) (vals:= #[.agg (enc x).toArray,.agg (enc y).toArray]) ⟨rfl,fun i h1 h2=>by
   match i,h1 with
   | 0,_=>exact agg x
   | 1,_=>exact agg y⟩
  exact this
 rw [callFunc_enter hf]
 have call:=hK enc encl enc1 (ixCmp l) (ixSWO hne hsz) b 0 cap (Array.range l.length) w (fun args w=>callFunc_enter hfg args) hC hH hbl (by simpa using hlen)
 have er:(Array.range l.length).size=l.length:=by simp
 rw [er] at call
 simp only [Nat.zero_mul]
 refine Calls.mono call fun e w' ⟨he,n,os,hw⟩=> ?_
 subst hw
 have hd':pdq (ltOf (ixCmp l)) (Array.range l.length) 0 l.length (Lib.bitLen l.length) true true=sortIx l:=rfl
 rw [hd']
 have hds:=sortIx_size hne hsz
 let C':Array Value:=C.mapIdx fun k y=>if 0≤k∧k < 0+(flatK enc 4 (sortIx l)).size then (flatK enc 4 (sortIx l))[k - 0]! else y
 have hat:(putRowK enc 4 (Sort.ahead w n) b 0 (sortIx l)).heap[b]? = some (.cells C' T (0,0)):=by
  unfold putRowK putRow mapBlock
  simp only [heap_ahead,Array.getElem?_modify,hheap,if_true,Option.map_some,onCells,putCells,C',id_eq]
 have hoth:∀ k,k≠b→(putRowK enc 4 (Sort.ahead w n) b 0 (sortIx l)).heap[k]? = w.heap[k]? :=fun k hk=>by
  unfold putRowK putRow mapBlock
  simp only [heap_ahead,Array.getElem?_modify]
  rw [if_neg (Ne.symm hk)]
 have hnew:∀ i (h:i < l.length) j,j < 4→∃ v p,C'[i * 4+j]? = some v∧(gtT l (sortIx l)[i]!).cells[j]? = some p∧V0 gh.S p v:=fun i h j hj=>by
  have ht:i * 4+j < (sortIx l).size * 4:=by omega
  obtain ⟨v,p,q1,_,q3,q4⟩:=encg (sortIx l)[i]! j hj
  refine ⟨v,p,?_,q3,q4⟩
  have hlt:i * 4+j < C.size:=by omega
  simp only [C',Array.getElem?_mapIdx]
  rw [Array.getElem?_eq_getElem hlt,Option.map_some,if_pos ⟨Nat.zero_le _,by rw [size_flatK];omega⟩,Nat.sub_zero,hflat _ _ ht,show (i * 4+j) / 4=i by omega,show (i * 4+j) % 4=j by omega,Array.getD_eq_getD_getElem?,q1]
  rfl
 have hsl:(sortF l).length=l.length:=by simp [sortF,hds]
 obtain ⟨j1,j2⟩:=inv_put (w':=putRowK enc 4 (Sort.ahead w n) b 0 (sortIx l)) hi hro hb trivial hσ hS hoth (by unfold putRowK;rw [Go.Proofs.size_putRow];rfl) hat (fun a=>by unfold putRowK;rw [frozen?_putRow];rfl) (bo:= .cells 4 (cellsL (sortF l)))
  (fun es el h => by
    cases h
    refine ⟨C',T,rfl,fun i hi'=> ?_,?_,fun i hi' j hj=> ?_⟩
    · simp only [cellsL_eq,List.getElem_map,cl4]
    · rw [cellsL_length, hsl]
      have:C'.size=C.size:=by simp [C']
      omega
    · rw [cellsL_length, hsl] at hi'
      have ee:(cellsL (sortF l))[i]'(by rw [cellsL_length,hsl];exact hi')=(gtT l (sortIx l)[i]!).cells:=by
       simp only [cellsL_eq,List.getElem_map,sortF]
       congr 2
       rw [getElem!_pos _ _ (by omega)]
       simp
      rw [ee,cl4] at hj
      obtain ⟨v,p,z1,z2,z3⟩:=hnew i hi' j hj
      refine ⟨v,z1,.pure _ _ ?_⟩
      have e2:(cellsL (sortF l))[i][j]=p:=by
       have:((cellsL (sortF l))[i])[j]? = some p:=by rw [ee];exact z2
       rw [List.getElem?_eq_getElem] at this
       simpa using this
      rw [e2]
      exact z3)
  (fun es h => by cases h) (fun c1 T1 m1 h => by
    cases h
    have:=hi.rm id b C T _ ⟨_,hb,trivial⟩ hσ hheap
    have hq:C'.size=C.size:=by simp [C']
    omega) ⟨rfl,rfl,rfl,fun _=>Nat.le_add_right _ _⟩
 obtain ⟨i1,i2⟩:=inv_grown (w':=grow (putRowK enc 4 (Sort.ahead w n) b 0 (sortIx l)) os) j1 (fun k hk=>by unfold grow;rw [Array.getElem?_append_left hk]) (by unfold grow;simp) ⟨rfl,rfl,rfl,fun _=>Nat.le_refl _⟩
 exact ⟨_,he,gh,.tup _ _ rfl (fun i hi=>absurd hi (by simp)),i1,j2.trans hi i2 (by simp)⟩
end
end Go.Vm
namespace Go.Vm
def wrongB (l:List Bs):Bool:=l.any fun s=> !dottedB s
def outB (n:Int):Bool:=decide (n < 0) || decide (9999 < n)
def Tm.isB (t:Tm) (nm:Bs) (n:Nat):Bool:=match t with
 | .mk k m _ _ l=>decide (k=3) && ((m == nm) && decide (l.length=n))
structure Cred where
 sub:Bs
 key:Tm
 iss:Bool
 pn:Bool
 per:List Bs
 en:Bool
 exc:List Bs
 ser:Int
 fr:Int
 till:Int
def Cred.cells (x:Cred):List PV:= .str x.sub :: (x.key.cells ++ [.bool x.iss,slV x.pn 1 (strC x.per),slV x.en 1 (strC x.exc),.int .i64 x.ser,.int .i64 x.fr,.int .i64 x.till])
def Cred.valid (x:Cred):Int:=
 if dottedB x.sub=false then 2 else if x.key.key≠0 then x.key.key else if x.key.isB [112,107] 1=false then 10 else
 if 4 < x.per.length∨4 < x.exc.length then 3 else if wrongB x.per=true∨wrongB x.exc=true then 2 else
 if x.iss=false∧0 < x.per.length+x.exc.length then 1 else if [x.ser,x.fr,x.till].any outB=true∨x.till < x.fr then 7 else 0
def numC (l:List Int):List (List PV):=l.map fun n=>[.int .i64 n]
theorem numC_len (l:List Int):(numC l).length=l.length:=by simp [numC]
theorem numC_get {l:List Int} {i:Nat} {x:Int} (h:l[i]? = some x):(numC l)[i]? = some [.int .i64 x]:=by simp [numC,h]
end Go.Vm
namespace Go.Vm
def atomT (nm:Bs) (s:Int):Tm:= .mk 2 nm s true []
theorem atomT_cells (nm:Bs) (s:Int):(atomT nm s).cells= [.int .i64 2,.str nm,.int .i64 s,.nils]:=by
 show [PV.int .i64 2,.str nm,.int .i64 s,slV true 4 (cellsL [])]=_
 rw [show slV true 4 (cellsL [])= .nils from slV_nil_true 4]
def pairT (a b:Tm):Tm:= .mk 3 [112,97,105,114] 0 true [a,b]
def tupT:List Tm→Tm
 | []=> .zero
 | a :: r => match r with
   | []=>a
   | _ :: _=>pairT a (tupT r)
theorem tupT_drop {l:List Tm} {i:Nat} {a:Tm} (h:l[i]? = some a) (hi:i+1 < l.length):tupT (l.drop i)=pairT a (tupT (l.drop (i+1))):=by
 rw [drop_cons h]
 cases hr:l.drop (i+1) with
 | nil=>have:=congrArg List.length hr;simp at this;omega
 | cons b r=>simp only [tupT]
def endT:Tm:=atomT [101,110,100] 5
def nameT (s:Bs):Tm:=tupT ((splitD s).map (fun x=>atomT x 4) ++ [endT])
def namesT (l:List Bs):Tm:=tupT (l.map nameT ++ [endT])
def numT (n:Int):Tm:=atomT (110 :: Lib.itoa n) 4
def flagN (b:Bool):Bs:=if b=true then [121,101,115] else [110,111]
def Cred.bodyL (x:Cred):List Tm:=[atomT [99,101,114,116] 5,nameT x.sub,x.key,atomT (flagN x.iss) 4,namesT x.per,namesT x.exc,numT x.ser,numT x.fr,numT x.till]
def Cred.body (x:Cred):Tm:=tupT x.bodyL
def Cred.term (x:Cred) (key:Tm):Tm:= .mk 3 [115,105,103,110] 0 true [x.body,key]
def Cred.issue (x:Cred) (key:Tm):Tm×Int:=if x.valid≠0 then (.zero,x.valid) else if key.key≠0 then (.zero,key.key) else if (x.term key).valid≠0 then (.zero,(x.term key).valid) else (x.term key,0)
theorem thn_zero {a b:Int}:thn a b=0↔a=0∧b=0:=by
 unfold thn
 by_cases h:a=0
 · simp [h]
 · simp [h]
theorem cmpI_zero2 {a b:Int}:cmpI a b=0↔a=b:=⟨cmpI_zero,fun h=>by subst h;simp [cmpI]⟩
theorem cmpB_zero {a b:List UInt8}:cmpB a b=0↔a=b:=by
 constructor
 · intro h
   simp only [cmpB] at h
   split at h
   · omega
   · split at h
     · assumption
     · omega
 · rintro rfl
   simp [cmpB,bytesLess_irrefl]
mutual
theorem cl_of_cmp:∀ a b:Tm,a.cmp b=0→a.cl=b.cl
 | .mk k nm s n l, .mk k' nm' s' n' l', h => by
   simp only [Tm.cmp,thn_zero,cmpI_zero2,cmpB_zero] at h
   obtain ⟨_,h2,h3,h4,h5,h6⟩:=h
   subst h2 h3 h4
   simp only [Tm.cl]
   rw [clL_of_cmp l l' (by omega) h6]
theorem clL_of_cmp:∀ l l':List Tm,l.length=l'.length→cmpL l l'=0→clL l=clL l'
 | [],[],_,_=>rfl
 | [],_ :: _,h,_=>by simp at h
 | _ :: _,[],h,_=>by simp at h
 | a :: r, b :: r', h, h' => by
   simp only [cmpL,thn_zero] at h'
   simp only [clL]
   rw [cl_of_cmp a b h'.1,clL_of_cmp r r' (by simpa using h) h'.2]
end
mutual
theorem cl_size:∀ t:Tm,t.cl.size=t.size
 | .mk _ _ _ _ l=>by simp only [Tm.cl,Tm.size,clL_size l]
theorem clL_size:∀ l:List Tm,sizeL (clL l)=sizeL l
 | []=>rfl
 | t :: r=>by simp only [clL,sizeL,cl_size t,clL_size r]
end
mutual
theorem cmp_of_cl:∀ a b:Tm,a.cl=b.cl→a.cmp b=0
 | .mk k nm s n l, .mk k' nm' s' n' l', h => by
   simp only [Tm.cl,Tm.mk.injEq,true_and] at h
   obtain ⟨rfl,rfl,rfl,h5⟩:=h
   have h6:l.length=l'.length:=by have:=congrArg List.length h5;simpa [cl_len] using this
   have h7:sizeL l=sizeL l':=by have:=congrArg sizeL h5;simpa [clL_size] using this
   simp only [Tm.cmp,thn_zero,cmpI_zero2,cmpB_zero,h6,h7,true_and]
   exact cmpL_of_cl l l' h5
theorem cmpL_of_cl:∀ l l':List Tm,clL l=clL l'→cmpL l l'=0
 | [],_,_=>rfl
 | _ :: _,[],h=>by simp [clL] at h
 | a :: r, b :: r', h => by
   simp only [clL,List.cons.injEq] at h
   simp only [cmpL,thn_zero]
   exact ⟨cmp_of_cl a b h.1,cmpL_of_cl r r' h.2⟩
end
theorem cmp_iff {a b:Tm}:a.cmp b=0↔a.cl=b.cl:=⟨cl_of_cmp a b,cmp_of_cl a b⟩
theorem cmp_symm {a b:Tm}:a.cmp b=0↔b.cmp a=0:=by rw [cmp_iff,cmp_iff];exact eq_comm
mutual
theorem cl_cl:∀ t:Tm,t.cl.cl=t.cl
 | .mk _ _ _ _ l=>by simp only [Tm.cl,clL_cl l]
theorem clL_cl:∀ l:List Tm,clL (clL l)=clL l
 | []=>rfl
 | t :: r=>by simp only [clL,cl_cl t,clL_cl r]
end
def Tm.nm:Tm→Bs
 | .mk _ nm _ _ _=>nm
theorem nm_cl (t:Tm):t.cl.nm=t.nm:=by cases t;rfl
def isPair:Tm→Option (Tm×Tm)
 | .mk k nm _ _ l => match l with
   | [x,y]=>if k=3∧nm= [112,97,105,114] then some (x,y) else none
   | _=>none
theorem isPair_some {t x y:Tm} (h:isPair t=some (x,y)):∃ s b,t= .mk 3 [112,97,105,114] s b [x,y]:=by
 obtain ⟨k,nm,s,b,l⟩:=t
 simp only [isPair] at h
 split at h
 · split at h
   · rename_i hc
     obtain ⟨rfl,rfl⟩:=hc
     cases h
     exact ⟨s,b,rfl⟩
   · cases h
 · cases h
theorem isPair_cl (t:Tm):isPair t.cl=(isPair t).map fun p=>(p.1.cl,p.2.cl):=by
 obtain ⟨k,nm,s,b,l⟩:=t
 simp only [Tm.cl,isPair]
 match l with
 | []=>rfl
 | [x]=>rfl
 | [x, y] =>
   simp only [clL]
   split <;> rfl
 | x :: y :: z :: r=>rfl
def partsN:Nat→Tm→List Tm×Tm
 | 0,t=>([],t)
 | n + 1, t => match isPair t with
   | some (x,y)=>(x :: (partsN n y).1,(partsN n y).2)
   | none=>([],t)
def Tm.parts (t:Tm):List Tm×Tm:=partsN t.size t
theorem partsN_more:∀ (n m:Nat) (t:Tm),t.size≤n→t.size≤m→partsN n t=partsN m t
 | 0,_,t,h,_=>by have:=size_pos t;omega
 | _+1,0,t,_,h=>by have:=size_pos t;omega
 | n + 1, m + 1, t, h, h' => by
   simp only [partsN]
   cases hp:isPair t with
   | none=>rfl
   | some p =>
     obtain ⟨x,y⟩:=p
     obtain ⟨s,b,rfl⟩:=isPair_some hp
     simp only [Tm.size,sizeL] at h h'
     have:=size_pos x
     simp only [partsN_more n m y (by omega) (by omega)]
theorem parts_pair {t x y:Tm} (h:isPair t=some (x,y)):t.parts=(x :: y.parts.1,y.parts.2):=by
 obtain ⟨s,b,rfl⟩:=isPair_some h
 have e:(Tm.mk 3 [112,97,105,114] s b [x,y]).size=(x.size+y.size)+1:=by simp only [Tm.size,sizeL];omega
 unfold Tm.parts
 rw [e]
 simp only [partsN,h]
 rw [partsN_more (x.size+y.size) y.size y (by omega) (Nat.le_refl _)]
theorem parts_none {t:Tm} (h:isPair t=none):t.parts=([],t):=by
 obtain ⟨n,hn⟩:∃ n,t.size=n+1:=⟨t.size - 1,by have:=size_pos t;omega⟩
 unfold Tm.parts
 rw [hn]
 simp only [partsN,h]
theorem partsN_cl:∀ (n:Nat) (t:Tm),partsN n t.cl=((partsN n t).1.map Tm.cl,(partsN n t).2.cl)
 | 0,t=>rfl
 | n + 1, t => by
   simp only [partsN,isPair_cl]
   cases isPair t with
   | none=>rfl
   | some p=>simp only [Option.map_some,partsN_cl n p.2,List.map_cons]
theorem parts_cl (t:Tm):t.cl.parts=(t.parts.1.map Tm.cl,t.parts.2.cl):=by
 unfold Tm.parts
 rw [cl_size,partsN_cl]
theorem parts_tup {e:Tm} (he:isPair e=none):∀ l:List Tm,(tupT (l ++ [e])).parts=(l,e)
 | []=>parts_none he
 | a :: r => by
   have:tupT (a :: r ++ [e])=pairT a (tupT (r ++ [e])):=by
    cases r <;> rfl
   rw [this,parts_pair (x:=a) (y:=tupT (r ++ [e])) rfl,parts_tup he r]
def rdName (t:Tm):Bs×Bool:=(joinB [46] (t.parts.1.map Tm.nm),decide (t.parts.2.cmp endT=0))
def rdNames (t:Tm):List Bs×Bool:=(t.parts.1.map fun x=>(rdName x).1,decide (t.parts.2.cmp endT=0) && t.parts.1.all fun x=>(rdName x).2)
def refName (t:Tm):Bs×Bool:=if t.parts.2.cmp endT=0 then (joinB [46] (t.parts.1.map Tm.nm),true) else ([],false)
def refNames (t:Tm):List Bs×Bool:=if t.parts.2.cmp endT=0 then (t.parts.1.map fun x=>(refName x).1,t.parts.1.all fun x=>(refName x).2) else ([],false)
theorem joinB_D:∀ l:List Bs,joinB [46] l=joinD l
 | []=>rfl
 | [x]=>rfl
 | x :: y :: r => by
   have:=joinB_D (y :: r)
   simp only [joinB,joinD] at this ⊢
   rw [this]
   rfl
theorem parts_eq {u v:Tm} (h:u.cl=v.cl):u.parts.1.map Tm.cl=v.parts.1.map Tm.cl∧u.parts.2.cl=v.parts.2.cl:=by
 have h1:=parts_cl u
 rw [h,parts_cl v] at h1
 simp only [Prod.mk.injEq] at h1
 exact ⟨h1.1.symm,h1.2.symm⟩
theorem map_nm {l l':List Tm} (h:l.map Tm.cl=l'.map Tm.cl):l.map Tm.nm=l'.map Tm.nm:=by
 have:=congrArg (List.map Tm.nm) h
 simpa [Function.comp_def,nm_cl] using this
theorem rdName_cl {u v:Tm} (h:u.cl=v.cl):rdName u=rdName v:=by
 obtain ⟨h1,h2⟩:=parts_eq h
 have e:(u.parts.2.cmp endT=0)=(v.parts.2.cmp endT=0):=propext (by rw [cmp_iff,cmp_iff,h2])
 simp only [rdName,map_nm h1,e]
theorem map_of_cl {α:Type} {f:Tm→α} (hf:∀ u v:Tm,u.cl=v.cl→f u=f v):∀ {l l':List Tm},l.map Tm.cl=l'.map Tm.cl→l.map f=l'.map f
 | [],[],_=>rfl
 | [],_ :: _,h=>by simp at h
 | _ :: _,[],h=>by simp at h
 | a :: r, b :: r', h => by
   simp only [List.map_cons,List.cons.injEq] at h ⊢
   exact ⟨hf a b h.1,map_of_cl hf h.2⟩
theorem all_map_id (l:List Tm) (f:Tm→Bool):l.all f=(l.map f).all id:=by simp [Function.comp_def]
theorem rdNames_cl {u v:Tm} (h:u.cl=v.cl):rdNames u=rdNames v:=by
 obtain ⟨h1,h2⟩:=parts_eq h
 have a1:=map_of_cl (f:=fun x=>(rdName x).1) (fun u v h=>by rw [rdName_cl h]) h1
 have a2:=map_of_cl (f:=fun x=>(rdName x).2) (fun u v h=>by rw [rdName_cl h]) h1
 have e:(u.parts.2.cmp endT=0)=(v.parts.2.cmp endT=0):=propext (by rw [cmp_iff,cmp_iff,h2])
 simp only [rdNames,e,a1]
 rw [all_map_id u.parts.1,all_map_id v.parts.1,a2]
theorem rdName_T (s:Bs):rdName (nameT s)=(s,true):=by
 have h:=parts_tup (e:=endT) rfl ((splitD s).map fun x=>atomT x 4)
 simp only [rdName,nameT,h,List.map_map,Function.comp_def]
 rw [show ((splitD s).map fun x=>(atomT x 4).nm)=splitD s by simp [atomT,Tm.nm],joinB_D,join_split]
 simp [cmp_iff]
theorem rdNames_T (l:List Bs):rdNames (namesT l)=(l,true):=by
 have h:=parts_tup (e:=endT) rfl (l.map nameT)
 simp only [rdNames,namesT,h,List.map_map,Function.comp_def,rdName_T,List.all_map]
 simp [cmp_iff]
theorem refName_of {t:Tm} (h:(rdName t).2=true):refName t=rdName t:=by
 simp only [rdName,decide_eq_true_eq] at h
 simp only [refName,rdName,h,if_pos,decide_true]
theorem refNames_of {t:Tm} (h:(rdNames t).2=true):refNames t=rdNames t:=by
 simp only [rdNames,Bool.and_eq_true,decide_eq_true_eq] at h
 obtain ⟨h1,h2⟩:=h
 have h3:∀ x,x∈t.parts.1→refName x=rdName x:=fun x hx=>refName_of (List.all_eq_true.1 h2 x hx)
 simp only [refNames,rdNames,h1,if_pos,decide_true,Bool.true_and]
 congr 1
 · exact List.map_congr_left fun x hx=>by rw [h3 x hx]
 · rw [all_map_id t.parts.1 fun x => (refName x).2, all_map_id t.parts.1 fun x => (rdName x).2]
   congr 1
   exact List.map_congr_left fun x hx=>by rw [h3 x hx]
def trimN (s:Bs):Bs:=match s with
 | c :: r=>if c=110 then r else c :: r
 | []=>[]
def numP (s:Bs):Int:=match Lib.atoiAll (trimN s) with
 | .ok v=>v
 | _=> -1
def numR (s:Bs):Int:=((s.take 6).drop 1).foldl (fun n c=>10 * n+(c.toNat:Int) - 48) 0
theorem dig_nat {a:Nat} (h:a < 10):(UInt8.ofNat (48+a)).toNat=48+a:=by
 simp only [UInt8.toNat_ofNat']
 omega
theorem dec1 {u:Nat} (h:u < 10):Lib.decDigits u= [UInt8.ofNat (48+u)]:=by rw [Lib.decDigits,dif_pos h]
theorem dec2 {u:Nat} (h:¬ u < 10):Lib.decDigits u=Lib.decDigits (u / 10) ++ [UInt8.ofNat (48+u % 10)]:=by rw [Lib.decDigits,dif_neg h]
theorem dec_small {u : Nat} (h : u ≤ 9999) : (∃ a, a < 10 ∧ u = a ∧ Lib.decDigits u = [UInt8.ofNat (48 + a)]) ∨
  (∃ a b,a < 10∧b < 10∧u=10 * a+b∧Lib.decDigits u= [UInt8.ofNat (48+a),UInt8.ofNat (48+b)])∨
  (∃ a b c,a < 10∧b < 10∧c < 10∧u=100 * a+10 * b+c∧Lib.decDigits u= [UInt8.ofNat (48+a),UInt8.ofNat (48+b),UInt8.ofNat (48+c)])∨
  (∃ a b c d,a < 10∧b < 10∧c < 10∧d < 10∧u=1000 * a+100 * b+10 * c+d∧Lib.decDigits u= [UInt8.ofNat (48+a),UInt8.ofNat (48+b),UInt8.ofNat (48+c),UInt8.ofNat (48+d)]):=by
 by_cases h1:u < 10
 · exact .inl ⟨u,h1,rfl,dec1 h1⟩
 · by_cases h2 : u < 100
   · exact .inr (.inl ⟨u / 10,u % 10,by omega,by omega,by omega,by rw [dec2 h1,dec1 (by omega)];rfl⟩)
   · by_cases h3 : u < 1000
     · exact .inr (.inr (.inl ⟨u / 10 / 10,u / 10 % 10,u % 10,by omega,by omega,by omega,by omega,by rw [dec2 h1,dec2 (by omega),dec1 (by omega)];rfl⟩))
     · exact .inr (.inr (.inr ⟨u / 10 / 10 / 10,u / 10 / 10 % 10,u / 10 % 10,u % 10,by omega,by omega,by omega,by omega,by omega,by rw [dec2 h1,dec2 (by omega),dec2 (by omega),dec1 (by omega)];rfl⟩))
theorem parse_dig {acc a:Nat} {r:List UInt8} (ha:a < 10) (hacc:acc≤100000):Lib.parseUint10 acc (UInt8.ofNat (48+a) :: r)=Lib.parseUint10 (acc * 10+a) r:=by
 simp only [Lib.parseUint10,dig_nat ha]
 rw [if_pos ⟨by omega,by omega⟩,if_neg (by omega),if_neg (by omega),show 48+a - 48=a by omega]
theorem atoi_dig {a u:Nat} {r:List UInt8} (ha:a < 10) (h:Lib.parseUint10 a r= .ok u) (hu:u≤99999):Lib.atoiAll (UInt8.ofNat (48+a) :: r)= .ok (u:Int):=by
 have h1:Lib.parseMag (UInt8.ofNat (48+a) :: r)= .ok u:=by
  unfold Lib.parseMag
  rw [if_neg (by simp),parse_dig ha (by omega)]
  simpa using h
 simp only [Lib.atoiAll,dig_nat ha]
 rw [if_neg (by omega),h1]
 simp only []
 rw [if_neg (by omega),if_neg (by omega),if_neg (by omega)]
theorem num_back {n:Int} (h0:0≤n) (h1:n≤9999):numP (110 :: Lib.itoa n)=n∧numR (110 :: Lib.itoa n)=n:=by
 obtain ⟨u,rfl⟩:∃ u:Nat,n=(u:Int):=⟨n.toNat,by omega⟩
 have e:Lib.itoa (u:Int)=Lib.decDigits u:=by
  unfold Lib.itoa
  rw [if_neg (by omega)]
  rfl
 have ht:trimN (110 :: Lib.decDigits u)=Lib.decDigits u:=by simp [trimN]
 rw [e]
 unfold numP numR
 rw [ht]
 rcases dec_small (u:=u) (by omega) with ⟨a,ha,hu,hd⟩ | ⟨a,b,ha,hb,hu,hd⟩ | ⟨a,b,c,ha,hb,hc,hu,hd⟩ | ⟨a,b,c,d,ha,hb,hc,hdd,hu,hd⟩
 all_goals
  rw [hd]
  constructor
 · rw [atoi_dig (u:=u) ha (by rw [hu];rfl) (by omega)]
 · simp only [List.take_succ_cons, List.take_nil, List.drop_succ_cons, List.drop_zero, List.foldl_cons, List.foldl_nil, dig_nat ha]
   omega
 · rw [atoi_dig (u:=u) ha (by rw [parse_dig hb (by omega),hu,show a * 10+b=10 * a+b by omega];rfl) (by omega)]
 · simp only [List.take_succ_cons, List.take_nil, List.drop_succ_cons, List.drop_zero, List.foldl_cons, List.foldl_nil, dig_nat ha, dig_nat hb]
   omega
 · rw [atoi_dig (u:=u) ha (by rw [parse_dig hb (by omega),parse_dig hc (by omega),hu,show (a * 10+b) * 10+c=100 * a+10 * b+c by omega];rfl) (by omega)]
 · simp only [List.take_succ_cons, List.take_nil, List.drop_succ_cons, List.drop_zero, List.foldl_cons, List.foldl_nil, dig_nat ha, dig_nat hb, dig_nat hc]
   omega
 · rw [atoi_dig (u:=u) ha (by rw [parse_dig hb (by omega),parse_dig hc (by omega),parse_dig hdd (by omega),hu,show ((a * 10+b) * 10+c) * 10+d=1000 * a+100 * b+10 * c+d by omega];rfl) (by omega)]
 · simp only [List.take_succ_cons, List.take_nil, List.drop_succ_cons, List.drop_zero, List.foldl_cons, List.foldl_nil, dig_nat ha, dig_nat hb, dig_nat hc, dig_nat hdd]
   omega
def Cred.zero:Cred:=⟨[],.zero,false,true,[],true,[],0,0,0⟩
def firsts:Nat→Tm→Option (List Tm×Tm)
 | 0,t=>some ([],t)
 | n + 1, t => match isPair t with
   | some (x, y) => match firsts n y with
     | some (l,r)=>some (x :: l,r)
     | none=>none
   | none=>none
def credOf (rn:Tm→Bs×Bool) (rl:Tm→List Bs×Bool) (num:Bs→Int) (l:List Tm) (r:Tm):Cred×Bool:=match l with
 | [_,a,k,f,p,e,s,b]=>(⟨(rn a).1,k,f.nm == [121,101,115],true,(rl p).1,true,(rl e).1,num s.nm,num b.nm,num r.nm⟩,(rn a).2 && ((rl p).2 && (rl e).2))
 | _=>(.zero,false)
def readF (rn:Tm→Bs×Bool) (rl:Tm→List Bs×Bool) (num:Bs→Int) (t:Tm):Cred×Int:=
 if t.valid≠0∨t.isB [115,105,103,110] 2=false then (.zero,2) else match t with
  | .mk _ _ _ _ l => match l with
    | [u, key] => match firsts 8 u with
      | none=>(.zero,2)
      | some (l, r) => if (credOf rn rl num l r).2 = false then (.zero, 2) else
        if ((credOf rn rl num l r).1.issue key).2≠0∨((credOf rn rl num l r).1.issue key).1.cmp t≠0 then (.zero,2) else ((credOf rn rl num l r).1,0)
    | _=>(.zero,2)
def readP:=readF rdName rdNames numP
def readR:=readF refName refNames numR
theorem firsts_cl:∀ (n:Nat) (t:Tm),firsts n t.cl=(firsts n t).map fun p=>(p.1.map Tm.cl,p.2.cl)
 | 0,t=>rfl
 | n + 1, t => by
   simp only [firsts,isPair_cl]
   cases isPair t with
   | none=>rfl
   | some p =>
     simp only [Option.map_some,firsts_cl n p.2]
     cases firsts n p.2 with
     | none=>rfl
     | some q=>rfl
theorem valid_nums {x:Cred} (h:x.valid=0):(0≤x.ser∧x.ser≤9999)∧(0≤x.fr∧x.fr≤9999)∧(0≤x.till∧x.till≤9999):=by
 unfold Cred.valid at h
 split at h; · omega
 split at h; · contradiction
 split at h; · omega
 split at h; · omega
 split at h; · omega
 split at h; · omega
 split at h; · omega
 rename_i h7
 simp only [List.any_cons,List.any_nil,outB,Bool.or_false,Bool.or_eq_true,decide_eq_true_eq] at h7
 omega
theorem yes_flag (b:Bool):(flagN b == [121,101,115])=b:=by cases b <;> rfl
theorem read_back {x : Cred} (hv : x.valid = 0) {u : Tm} (hu : u.cl = x.body.cl) : ∃ l r k, firsts 8 u = some (l, r) ∧ k.cl = x.key.cl ∧ credOf rdName rdNames numP l r = (⟨x.sub, k, x.iss, true, x.per, true, x.exc, x.ser, x.fr, x.till⟩, true) ∧
  credOf refName refNames numR l r=(⟨x.sub,k,x.iss,true,x.per,true,x.exc,x.ser,x.fr,x.till⟩,true)∧(u=x.body→k=x.key):=by
 have h1:=firsts_cl 8 u
 have h2:firsts 8 x.body=some ([atomT [99,101,114,116] 5,nameT x.sub,x.key,atomT (flagN x.iss) 4,namesT x.per,namesT x.exc,numT x.ser,numT x.fr],numT x.till):=rfl
 rw [hu,firsts_cl 8 x.body,h2] at h1
 simp only [Option.map_some,List.map_cons,List.map_nil] at h1
 cases hf:firsts 8 u with
 | none=>rw [hf] at h1;cases h1
 | some q =>
   obtain ⟨l,r⟩:=q
   rw [hf] at h1
   simp only [Option.map_some,Option.some.injEq,Prod.mk.injEq] at h1
   obtain ⟨h3,h4⟩:=h1
   rcases l with _ | ⟨a0,_ | ⟨a1,_ | ⟨a2,_ | ⟨a3,_ | ⟨a4,_ | ⟨a5,_ | ⟨a6,_ | ⟨a7,_ | ⟨a8,l⟩⟩⟩⟩⟩⟩⟩⟩⟩
   all_goals first
    | (simp at h3;done)
    | skip
   · simp only [List.map_cons, List.map_nil, List.cons.injEq, and_true] at h3
     obtain ⟨-,e1,e2,e3,e4,e5,e6,e7⟩:=h3
     have f1:=rdName_cl e1
     have f4:=rdNames_cl e4
     have f5:=rdNames_cl e5
     rw [rdName_T] at f1
     rw [rdNames_T] at f4 f5
     have g1:=refName_of (t:=a1) (by rw [← f1])
     have g4:=refNames_of (t:=a4) (by rw [← f4])
     have g5:=refNames_of (t:=a5) (by rw [← f5])
     rw [← f1] at g1
     rw [← f4] at g4
     rw [← f5] at g5
     have n3:a3.nm=flagN x.iss:=by rw [← nm_cl a3, ← e3];rfl
     have n6:a6.nm=110 :: Lib.itoa x.ser:=by rw [← nm_cl a6, ← e6];rfl
     have n7:a7.nm=110 :: Lib.itoa x.fr:=by rw [← nm_cl a7, ← e7];rfl
     have n8:r.nm=110 :: Lib.itoa x.till:=by rw [← nm_cl r, ← h4];rfl
     obtain ⟨⟨v1,v2⟩,⟨v3,v4⟩,v5,v6⟩:=valid_nums hv
     have b6:=num_back v1 v2
     have b7:=num_back v3 v4
     have b8:=num_back v5 v6
     refine ⟨_,_,a2,rfl,e2.symm,?_,?_,fun e=> ?_⟩
     · simp only [credOf, ← f1, ← f4, ← f5,n3,n6,n7,n8,yes_flag,b6,b7,b8,Bool.and_self]
     · simp only [credOf,g1,g4,g5,n3,n6,n7,n8,yes_flag,b6,b7,b8,Bool.and_self]
     · subst e
       rw [h2] at hf
       simp only [Option.some.injEq,Prod.mk.injEq,List.cons.injEq] at hf
       exact hf.1.2.2.1.symm
theorem issue_ok {x:Cred} {key:Tm} (h:(x.issue key).2=0):x.valid=0∧key.key=0∧(x.term key).valid=0∧(x.issue key).1=x.term key:=by
 unfold Cred.issue at h ⊢
 split at h; · contradiction
 split at h; · contradiction
 split at h; · contradiction
 rename_i h1 h2 h3
 rw [if_neg h1,if_neg h2,if_neg h3]
 exact ⟨by simpa using h1,by simpa using h2,by simpa using h3,rfl⟩
theorem term_cl {x:Cred} {key u key':Tm} {k:Int} {nm:Bs} {s:Int} {b:Bool} (h:(x.term key).cmp (.mk k nm s b [u,key'])=0):u.cl=x.body.cl:=by
 have:=cl_of_cmp _ _ h
 simp only [Cred.term,Tm.cl,Tm.mk.injEq,clL,List.cons.injEq] at this
 exact this.2.2.2.2.1.symm
theorem read_same (t:Tm):readP t=readR t:=by
 unfold readP readR readF
 split
 · rfl
 · obtain ⟨k, nm, s, b, kids⟩ := t
   simp only []
   match kids with
   | []=>rfl
   | [_]=>rfl
   | _ :: _ :: _ :: _=>rfl
   | [u, key] =>
     simp only []
     cases hf:firsts 8 u with
     | none=>rfl
     | some q =>
       obtain ⟨l,r⟩:=q
       simp only []
       have key1:∀ c:Cred×Bool,c=credOf rdName rdNames numP l r∨c=credOf refName refNames numR l r→(c.1.issue key).2=0→(c.1.issue key).1.cmp (.mk k nm s b [u,key])=0→credOf rdName rdNames numP l r=credOf refName refNames numR l r:=fun c _ h1 h2=>by
        obtain ⟨i1,i2,i3,i4⟩:=issue_ok h1
        rw [i4] at h2
        obtain ⟨l',r',k',e1,_,e2,e3,_⟩:=read_back i1 (term_cl h2)
        rw [hf] at e1
        cases e1
        rw [e2,e3]
       by_cases hP:((credOf rdName rdNames numP l r).1.issue key).2=0∧((credOf rdName rdNames numP l r).1.issue key).1.cmp (.mk k nm s b [u,key])=0
       · rw [key1 _ (.inl rfl) hP.1 hP.2]
       · by_cases hR : ((credOf refName refNames numR l r).1.issue key).2 = 0 ∧ ((credOf refName refNames numR l r).1.issue key).1.cmp (.mk k nm s b [u, key]) = 0
         · rw [key1 _ (.inr rfl) hR.1 hR.2]
         · have hP' : ((credOf rdName rdNames numP l r).1.issue key).2 ≠ 0 ∨ ((credOf rdName rdNames numP l r).1.issue key).1.cmp (.mk k nm s b [u, key]) ≠ 0 := Decidable.not_and_iff_or_not.1 hP
           have hR':((credOf refName refNames numR l r).1.issue key).2≠0∨((credOf refName refNames numR l r).1.issue key).1.cmp (.mk k nm s b [u,key])≠0:=Decidable.not_and_iff_or_not.1 hR
           rw [if_pos hP',if_pos hR']
           split <;> split <;> rfl
theorem read_issue {x:Cred} {key:Tm} (h:(x.issue key).2=0):readP (x.issue key).1=({x with pn:=true,en:=true},0):=by
 obtain ⟨h1,h2,h3,h4⟩:=issue_ok h
 rw [h4]
 obtain ⟨l,r,k,e1,_,e2,_,e4⟩:=read_back h1 rfl
 have e4:=e4 rfl
 subst e4
 unfold readP readF
 rw [if_neg (by rw [h3];simp [Tm.isB,Cred.term])]
 simp only [Cred.term,e1,e2]
 have h5:Cred.issue ⟨x.sub,x.key,x.iss,true,x.per,true,x.exc,x.ser,x.fr,x.till⟩ key=x.issue key:=rfl
 rw [if_neg (by simp),if_neg (by rw [h5,h,h4];simp [cmp_iff,Cred.term])]
end Go.Vm
