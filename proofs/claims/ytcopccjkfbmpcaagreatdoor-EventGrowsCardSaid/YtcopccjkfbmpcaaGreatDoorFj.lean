/-
  What the listed variables hold; the call of a statement's function where the cod
-/
import Derived.Test.YtcopccjkfbmpcaaGreatDoorFi
import Derived.LaidByTextLater
namespace Go.Vm
variable {all r:List Oper} {N c d f i:Nat} {ty:TypeId} {pos:String} {aft:Array Edge} {grd:Option (Nat×Bool)} {a x y:Tm} {X Y:PV} {kz l m:List Tm} {nm:Bs} {s:Int} {b:List Nat}
section
variable {E:Env} {P:Program} {own:Tmp→Bool} {n:Nat} {K:TM→Heap→Prop} {tm:TM} {H:Heap}
theorem qLk {t : TypeId} {x i : Operand} {ok : Bool} {p p' : PV} (hw : Zi all tm ⟨some d, .lookup t x i ok, ty, pos, aft, grd⟩ = some true) (hn : Nat.blt d n = true) (hx : Zj E tm x = X) (hy : Zj E tm i = Y) (h : Wk E t X Y ok H = some p) (hv : IsV p p')
  (hr:RegQ E P own n all r K (ZV tm (some d) p') H):RegQ E P own n all (⟨some d,.lookup t x i ok,ty,pos,aft,grd⟩::r) K tm H:= .run hw rfl hn (p:=p) (by simp only [aOp,hx,hy,h,Option.map_some]) hv hr
theorem qMu {t : TypeId} {m k v : Operand} {Z : PV} {H1 : Heap} (hw : Zi all tm ⟨none, .mapUpdate t m k v, ty, pos, aft, grd⟩ = some true) (hx : Zj E tm m = X) (hy : Zj E tm k = Y) (hz : Zj E tm v = Z) (h : Ym E t X Y Z H = some H1)
  (hr:RegQ E P own n all r K tm H1):RegQ E P own n all (⟨none,.mapUpdate t m k v,ty,pos,aft,grd⟩::r) K tm H:=
 .op (p:= .undef) hw rfl (by simp only [aOp,hx,hy,hz,h,Option.map_some]) hr
end
def mpI (l:List (Int×Bool)):List (PV×PV):=l.map fun x=>(.int .i64 x.1,.bool x.2)
def mpS (l:List (List UInt8×Bool)):List (PV×PV):=l.map fun x=>(.str x.1,.bool x.2)
def lkB {α:Type} [DecidableEq α] (k:α):List (α×Bool)→Bool
 | []=>false
 |(x,b)::r=>if k=x then b else lkB k r
def upB {α:Type} [DecidableEq α] (k:α) (v:Bool):List (α×Bool)→List (α×Bool)
 | []=>[(k,v)]
 |(x,b)::r=>if k=x then (k,v)::r else (x,b)::upB k v r
theorem Zk3 {α:Type} [DecidableEq α] (k j:α) (v:Bool):∀ l:List (α×Bool),lkB j (upB k v l)=if j=k then v else lkB j l
 | []=>by simp [upB,lkB]
 | (x, b) :: r => by
   simp only [upB]
   split
   · rename_i h
     subst h
     simp only [lkB]
     split<;>rfl
   · rename_i h
     simp only [lkB,Zk3 k j v r]
     split
     · rename_i h2
       subst h2
       rw [if_neg fun e=>h e.symm]
     · rfl
theorem Zih (k : Int) : ∀ (l : List (Int × Bool)) (i : Nat), ∃ r, Us (.int .i64 k) (mpI l) i = some r ∧ (match r with | some (_, v) => v = .bool (lkB k l) | none => lkB k l = false) ∧
  (match r with|some (j,_)=>i≤j∧(mpI l).set (j-i) (.int .i64 k,.bool true)=mpI (upB k true l)∧(mpI l).set (j-i) (.int .i64 k,.bool false)=mpI (upB k false l)|none=>∀ v,mpI l++ [(.int .i64 k,.bool v)]=mpI (upB k v l))
 | [],i=>⟨none,rfl,rfl,fun v=>rfl⟩
 | (x, b) :: r, i => by
   by_cases h:k=x
   · subst h
     refine ⟨some (i,.bool b),?_,?_,Nat.le_refl _,?_,?_⟩
     · simp [mpI,Us,ZeU]
     · simp [lkB]
     · simp [mpI,upB]
     · simp [mpI,upB]
   · obtain ⟨q, h1, h2, h3⟩ := Zih k r (i + 1)
     refine ⟨q,?_,?_,?_⟩
     · simp only [mpI, List.map_cons, Us, ZeU, if_true]
       have e:(k==x)=false:=by simpa using h
       rw [e]
       exact h1
     · simp only [lkB, if_neg h]
       exact h2
     · cases q with
       | none =>
         intro v
         have:=h3 v
         simp only [upB,if_neg h,mpI,List.map_cons,List.cons_append] at this ⊢
         rw [this]
       | some z =>
         obtain ⟨j,w⟩:=z
         obtain ⟨a1,a2,a3⟩:=h3
         refine ⟨by omega,?_,?_⟩
         all_goals
          rw [show j-i=(j-(i+1))+1 by omega]
          simp only [upB,if_neg h,mpI,List.map_cons,List.set_cons_succ] at a2 a3 ⊢
          first|rw [a2]|rw [a3]
theorem Zjf (k : List UInt8) : ∀ (l : List (List UInt8 × Bool)) (i : Nat), ∃ r, Us (.str k) (mpS l) i = some r ∧ (match r with | some (_, v) => v = .bool (lkB k l) | none => lkB k l = false) ∧
  (match r with|some (j,_)=>i≤j∧(mpS l).set (j-i) (.str k,.bool true)=mpS (upB k true l)∧(mpS l).set (j-i) (.str k,.bool false)=mpS (upB k false l)|none=>∀ v,mpS l++ [(.str k,.bool v)]=mpS (upB k v l))
 | [],i=>⟨none,rfl,rfl,fun v=>rfl⟩
 | (x, b) :: r, i => by
   by_cases h:k=x
   · subst h
     refine ⟨some (i,.bool b),?_,?_,Nat.le_refl _,?_,?_⟩
     · simp [mpS,Us,ZeU]
     · simp [lkB]
     · simp [mpS,upB]
     · simp [mpS,upB]
   · obtain ⟨q, h1, h2, h3⟩ := Zjf k r (i + 1)
     refine ⟨q,?_,?_,?_⟩
     · simp only [mpS, List.map_cons, Us, ZeU]
       have e:(k==x)=false:=by simpa using h
       rw [e]
       exact h1
     · simp only [lkB, if_neg h]
       exact h2
     · cases q with
       | none =>
         intro v
         have:=h3 v
         simp only [upB,if_neg h,mpS,List.map_cons,List.cons_append] at this ⊢
         rw [this]
       | some z =>
         obtain ⟨j,w⟩:=z
         obtain ⟨a1,a2,a3⟩:=h3
         refine ⟨by omega,?_,?_⟩
         all_goals
          rw [show j-i=(j-(i+1))+1 by omega]
          simp only [upB,if_neg h,mpS,List.map_cons,List.set_cons_succ] at a2 a3 ⊢
          first|rw [a2]|rw [a3]
section
variable {E:Env} {t kt e:TypeId} {ti ei:TI} {id:Nat} {H:Heap}
theorem Zu0 {l : List (Int × Bool)} {n : Int} (ht : E.T t = some ti) (hk : ti.tk = .map kt e) (hko : Zel E kt (.int .i64 n) = true) (he : E.T e = some ei) (hz : ei.zero = .bool false) (hb : nth H.bx id = some (.map (mpI l))) :
  Wk E t (.map id) (.int .i64 n) false H=some (.bool (lkB n l)):=by
 obtain ⟨r,h1,h2, -⟩:=Zih n l 0
 simp only [Wk,ht,hk,hko,if_true,hb,h1]
 cases r with
 |none=>simp only [he,hz];rw [show lkB n l=false from h2];rfl
 |some z=>obtain ⟨j,v⟩:=z;simp only;rw [show v= .bool (lkB n l) from h2];rfl
theorem Zva {l : List (List UInt8 × Bool)} {n : List UInt8} (ht : E.T t = some ti) (hk : ti.tk = .map kt e) (hko : Zel E kt (.str n) = true) (he : E.T e = some ei) (hz : ei.zero = .bool false) (hb : nth H.bx id = some (.map (mpS l))) :
  Wk E t (.map id) (.str n) false H=some (.bool (lkB n l)):=by
 obtain ⟨r,h1,h2, -⟩:=Zjf n l 0
 simp only [Wk,ht,hk,hko,if_true,hb,h1]
 cases r with
 |none=>simp only [he,hz];rw [show lkB n l=false from h2];rfl
 |some z=>obtain ⟨j,v⟩:=z;simp only;rw [show v= .bool (lkB n l) from h2];rfl
theorem ZuR {l : List (Int × Bool)} {n : Int} (v : Bool) (ht : E.T t = some ti) (hk : ti.tk = .map kt e) (hko : Zel E kt (.int .i64 n) = true) (hb : nth H.bx id = some (.map (mpI l))) (hr : H.ro ≤ id) :
  Ym E t (.map id) (.int .i64 n) (.bool v) H=some {H with bx:=H.bx.set id (.map (mpI (upB n v l)))}:=by
 obtain ⟨r,h1, -,h3⟩:=Zih n l 0
 simp only [Ym,ht,hk,hko,if_true,hb,h1,Heap.put]
 cases r with
 |none=>simp only [if_neg (show ¬ id<H.ro by omega)];rw [show mpI l++ [(.int .i64 n,.bool v)]=mpI (upB n v l) from h3 v]
 | some z =>
   obtain ⟨j,w⟩:=z
   obtain ⟨-,a2,a3⟩:=h3
   rw [Nat.sub_zero] at a2 a3
   simp only [if_neg (show ¬ id<H.ro by omega)]
   cases v
   · rw [a3]
   · rw [a2]
theorem Zvq {l : List (List UInt8 × Bool)} {n : List UInt8} (v : Bool) (ht : E.T t = some ti) (hk : ti.tk = .map kt e) (hko : Zel E kt (.str n) = true) (hb : nth H.bx id = some (.map (mpS l))) (hr : H.ro ≤ id) :
  Ym E t (.map id) (.str n) (.bool v) H=some {H with bx:=H.bx.set id (.map (mpS (upB n v l)))}:=by
 obtain ⟨r,h1, -,h3⟩:=Zjf n l 0
 simp only [Ym,ht,hk,hko,if_true,hb,h1,Heap.put]
 cases r with
 |none=>simp only [if_neg (show ¬ id<H.ro by omega)];rw [show mpS l++ [(.str n,.bool v)]=mpS (upB n v l) from h3 v]
 | some z =>
   obtain ⟨j,w⟩:=z
   obtain ⟨-,a2,a3⟩:=h3
   rw [Nat.sub_zero] at a2 a3
   simp only [if_neg (show ¬ id<H.ro by omega)]
   cases v
   · rw [a3]
   · rw [a2]
end
theorem ZjU (n:Nat) (l:List (Int×Bool)):YJ n (.map (mpI l))=true:=by
 simp only [YJ,mpI,List.all_map,List.all_eq_true]
 intro x _
 rfl
theorem Zh1 (n:Nat) (l:List (List UInt8×Bool)):YJ n (.map (mpS l))=true:=by
 simp only [YJ,mpS,List.all_map,List.all_eq_true]
 intro x _
 rfl
def Ztn (f t n:Int):Int:=if n=f then t else if n=t then f else n
mutual
def Tm.xt (g:Bs→Bs):Tm→Tm
 | .mk k nm s _ kz=> .mk k (if k=2 then g nm else nm) s true (xtL g kz)
def xtL (g:Bs→Bs):List Tm→List Tm
 | []=>[]
 |t::r=>t.xt g::xtL g r
end
mutual
def Tm.chg (g:Bs→Bs):Tm→Bool
 | .mk k nm _ _ kz=>(decide (k=2)&& !decide (g nm=nm))||Zq4 g kz
def Zq4 (g:Bs→Bs):List Tm→Bool
 | []=>false
 |t::r=>t.chg g||Zq4 g r
end
mutual
theorem ZqM (g:Bs→Bs):∀ t:Tm,(t.xt g).cl=t.cl↔t.chg g=false
 | .mk k nm s b kz => by
   simp only [Tm.xt,Tm.cl,Tm.chg,Tm.mk.injEq,true_and,ZhR g kz,Bool.or_eq_false_iff]
   refine and_congr_left fun _=>?_
   by_cases hk:k=2
   · rw [if_pos hk]
     simp [hk]
   · rw [if_neg hk]
     simp [hk]
theorem ZhR (g:Bs→Bs):∀ l:List Tm,clL (xtL g l)=clL l↔Zq4 g l=false
 | []=>by simp [xtL,Zq4]
 |t::r=>by simp only [xtL,clL,Zq4,List.cons.injEq,ZqM g t,ZhR g r,Bool.or_eq_false_iff]
end
def Tm.rn (g:Bs→Bs) (c:Bool) (t:Tm):Tm:=if t.chg g=true∧((t.xt g).nf c).2=0 then ((t.xt g).nf c).1 else t.xt g
def Mo.rn (f t:Int) (h:Tm→Tm) (m:Mo):Mo:={m with num:=if m.kind≠6 then Ztn f t m.num else m.num,terms:=m.terms.map h}
def Mo.same (a b:Mo):Prop:=a.kind=b.kind∧a.num=b.num∧a.role=b.role∧a.goal=b.goal∧a.agents=b.agents∧a.terms.map Tm.cl=b.terms.map Tm.cl
theorem ZnO (h:Zpt nm=true):(YA nm).kind≠3∧nm≠Zba∧Zbi 3 nm=false∧nm≠YT:=by
 simp only [Zpt,Zt2,Bool.and_eq_true,Bool.not_eq_true',Bool.or_eq_false_iff,decide_eq_true_eq,beq_eq_false_iff_ne,ne_eq] at h
 obtain ⟨⟨⟨⟨⟨⟨h1,h2⟩,h3⟩,h4⟩,h5⟩,h6⟩,h7⟩:=h
 refine ⟨h7,h1,?_,h3⟩
 unfold Zbi
 rw [decide_eq_false (show ¬ nm=Uc from h4),decide_eq_false (show ¬ nm=VF from h5),decide_eq_false (show ¬ nm=Uj from h6)]
 rfl
theorem Zmj {n:Nat} (h:YF 3 nm s n=0):s=0:=by
 unfold YF at h
 split at h
 · cases h
 · rename_i h1
   by_cases e:s=0
   · exact e
   · exact absurd (.inr (.inr (.inr (.inl ⟨rfl,e⟩)))) h1
mutual
theorem Zgh (c:Bool):∀ t:Tm,t.fre=true→t.nodes=0→(t.nrm c).2=0∧(t.nrm c).1.cl=t.cl
 | .mk k nm s b kz, hf, hn => by
   simp only [Tm.fre,Bool.and_eq_true] at hf
   simp only [Tm.nodes] at hn
   simp only [Tm.nrm]
   by_cases hk:k≠3
   · rw [if_pos hk];exact ⟨rfl,rfl⟩
   rw [if_neg hk]
   have hk:k=3:=Classical.not_not.1 hk
   subst hk
   rw [if_pos rfl] at hf
   have hnf:YF 3 nm s kz.length=0:=by
    by_cases e:YF 3 nm s kz.length=0
    · exact e
    · rw [if_pos e] at hn;exact hn
   rw [if_neg (by omega)] at hn
   obtain ⟨e1,e2⟩:=ZdC c kz hf.2 hn
   rw [if_neg (by omega)]
   obtain ⟨a1,a2,a3,a4⟩:=ZnO hf.1
   obtain rfl:=Zmj hnf
   unfold YX
   rw [if_neg a1,if_neg a2,if_neg (by rw [a3];simp),if_neg a4]
   exact ⟨rfl,by simp only [Tm.cl,Y8,e2]⟩
theorem ZdC (c:Bool):∀ l:List Tm,ZfZ l=true→Yj l=0→(nrmL c l).2=0∧(nrmL c l).1.map Tm.cl=l.map Tm.cl
 | [],_,_=>⟨rfl,rfl⟩
 | t :: r, hf, hn => by
   simp only [ZfZ,Bool.and_eq_true] at hf
   simp only [Yj] at hn
   have h1:t.nodes=0:=by
    by_cases e:t.nodes=0
    · exact e
    · rw [if_pos e] at hn;exact hn
   rw [if_neg (by omega)] at hn
   obtain ⟨a1,a2⟩:=Zgh c t hf.1 h1
   obtain ⟨b1,b2⟩:=ZdC c r hf.2 hn
   simp only [nrmL]
   rw [if_neg (by omega),if_neg (by omega)]
   exact ⟨rfl,by simp only [List.map_cons,a2,b2]⟩
end
structure Tm.Fr (t:Tm):Prop where
 v:t.valid=0
 h:t.th=0
 g:t.ground=true
 f:t.fre=true
theorem ZhN {t:Tm} (h:t.valid=0):t.nodes=0:=by
 unfold Tm.valid at h
 by_cases e:t.nodes=0
 · exact e
 · rw [if_pos e] at h;exact h
theorem Zfp (c:Bool) {t:Tm} (h:t.Fr):(t.nf c).2=0∧(t.nf c).1.cl=t.cl:=by
 obtain ⟨e1,e2⟩:=Zgh c t h.f (ZhN h.v)
 unfold Tm.nf
 have e3:(t.nrm c).1.valid=0:=by rw [Y5 e2];exact h.v
 rw [if_neg (by rw [h.v];simp),if_neg (by rw [h.h];simp),if_neg (by rw [e1];simp),if_neg (by rw [e3];simp)]
 exact ⟨rfl,e2⟩
theorem Zpc {t:Tm} (h:t.fre=true):t.dsB=true:=by
 rw [Tm.fre_all,List.all_eq_true] at h
 unfold Tm.dsB
 rw [List.all_eq_true]
 intro x hx
 have:=h x hx
 obtain ⟨k,nm,s,b,kz⟩:=x
 simp only [Tm.fre1] at this
 by_cases hk:k=3
 · rw [if_pos hk] at this
   have h3:=(ZnO this).1
   simp [hk,h3]
 · simp [hk]
theorem Zhh (c:Bool) {t:Tm} (h:t.Fr):t.plainB c=true:=by
 obtain ⟨e1,e2⟩:=Zfp c h
 unfold Tm.plainB
 rw [Zpc h.f,decide_eq_true e1,decide_eq_true (Yc.2 e2)]
 rfl
mutual
theorem Zkv:∀ t:Tm,t.cl.fre=t.fre
 | .mk k nm s b kz=>by simp only [Tm.cl,Tm.fre,Zir kz]
theorem Zir:∀ l:List Tm,ZfZ (clL l)=ZfZ l
 | []=>rfl
 |t::r=>by simp only [clL,ZfZ,Zkv t,Zir r]
end
mutual
theorem Zfm:∀ t:Tm,t.cl.all.map Tm.knd=t.all.map Tm.knd
 | .mk k nm s b kz=>by simp only [Tm.cl,Tm.all,List.map_cons,Zge kz,Tm.knd]
theorem Zge:∀ l:List Tm,(Vj (clL l)).map Tm.knd=(Vj l).map Tm.knd
 | []=>rfl
 |t::r=>by simp only [clL,Vj,List.map_append,Zfm t,Zge r]
end
theorem XU (t:Tm):t.ground=(t.all.map Tm.knd).all fun k=> !decide (k=1):=by
 unfold Tm.ground V4
 rw [Bool.eq_iff_iff,List.isEmpty_iff,List.filter_eq_nil_iff,List.all_eq_true]
 simp
theorem Ztf {t u:Tm} (h:t.cl=u.cl) (hu:u.Fr):t.Fr where
 v:=by rw [Y5 h];exact hu.v
 h:=by rw [← ZjI,h,ZjI];exact hu.h
 g:=by rw [XU, ← Zfm,h,Zfm, ← XU];exact hu.g
 f:=by rw [← Zkv,h,Zkv];exact hu.f
mutual
def Tm.xs (g:Int→Bs→Bs):Tm→Tm
 | .mk k nm s _ kz=> .mk k (if k=2 then g s nm else nm) s true (xsL g kz)
def xsL (g:Int→Bs→Bs):List Tm→List Tm
 | []=>[]
 |t::r=>t.xs g::xsL g r
end
mutual
theorem ZrP (g:Bs→Bs):∀ t:Tm,t.xt g=t.xs fun _=>g
 | .mk k nm s b kz=>by simp only [Tm.xt,Tm.xs,Znw g kz]
theorem Znw (g:Bs→Bs):∀ l:List Tm,xtL g l=xsL (fun _=>g) l
 | []=>rfl
 |t::r=>by simp only [xtL,xsL,ZrP g t,Znw g r]
end
mutual
def Tm.nmA (p:Bs→Bool):Tm→Bool
 | .mk _ nm _ _ kz=>p nm&&ZbT p kz
def ZbT (p:Bs→Bool):List Tm→Bool
 | []=>true
 |t::r=>t.nmA p&&ZbT p r
end
mutual
theorem Zmm {p:Bs→Bool} (h:∀ s,p s=true):∀ t:Tm,t.nmA p=true
 | .mk k nm s b kz=>by rw [Tm.nmA,h,Zep h kz];rfl
theorem Zep {p:Bs→Bool} (h:∀ s,p s=true):∀ l:List Tm,ZbT p l=true
 | []=>rfl
 |t::r=>by rw [ZbT,Zmm h t,Zep h r];rfl
end
variable {g:Int→Bs→Bs}
theorem Zae:∀ l:List Tm,xsL g l=l.map (·.xs g)
 | []=>rfl
 |t::r=>by simp only [xsL,List.map_cons,Zae r]
theorem ZaE (l:List Tm):(xsL g l).length=l.length:=by rw [Zae,List.length_map]
mutual
theorem ZnA:∀ t:Tm,(t.xs g).fre=t.fre
 | .mk k nm s b kz => by
   simp only [Tm.xs,Tm.fre,Zjc kz]
   by_cases hk:k=3
   · simp [hk]
   · simp [hk]
theorem Zjc:∀ l:List Tm,ZfZ (xsL g l)=ZfZ l
 | []=>rfl
 |t::r=>by simp only [xsL,ZfZ,ZnA t,Zjc r]
end
mutual
theorem Zns:∀ t:Tm,(t.xs g).all.map Tm.knd=t.all.map Tm.knd
 | .mk k nm s b kz=>by simp only [Tm.xs,Tm.all,List.map_cons,ZiT kz,Tm.knd]
theorem ZiT:∀ l:List Tm,(Vj (xsL g l)).map Tm.knd=(Vj l).map Tm.knd
 | []=>rfl
 |t::r=>by simp only [xsL,Vj,List.map_append,Zns t,ZiT r]
end
theorem ZoM (n:Bs) (kz:List Tm):WF n (xsL g kz)=WF n kz:=by
 unfold WF
 by_cases h:n= [110,101,119]
 · rw [if_pos h, if_pos h]
   cases kz with
   | nil=>rfl
   | cons a r=>cases a;rfl
 · rw [if_neg h, if_neg h, Zae, List.all_map]
   congr 1
   funext x
   cases x;rfl
mutual
theorem ZpR:∀ t:Tm,(t.xs g).th=t.th
 | .mk k nm s b kz => by
   by_cases hk:k=2
   · subst hk
     simp only [Tm.xs,Tm.th,ZaE,Zkf kz]
     simp
   · simp only [Tm.xs,Tm.th,if_neg hk,ZaE,ZoM,Zkf kz]
theorem Zkf:∀ l:List Tm,thL (xsL g l)=thL l
 | []=>rfl
 |t::r=>by simp only [xsL,thL,ZpR t,Zkf r]
end
mutual
theorem Zgf {p:Bs→Bool} (hg:∀ s nm,p nm=true→YB (g s nm)=YB nm):∀ t:Tm,t.nmA p=true→(t.xs g).nodes=t.nodes
 | .mk k nm s b kz, h => by
   rw [Tm.nmA,Bool.and_eq_true] at h
   have e:YF k (if k=2 then g s nm else nm) s (xsL g kz).length=YF k nm s kz.length:=by
    rw [ZaE]
    unfold YF
    split
    · rfl
    · by_cases hk : k = 2
      · rw [if_pos hk,hg s nm h.1]
      · rw [if_neg hk]
   simp only [Tm.xs,Tm.nodes,e,ZdD hg kz h.2]
theorem ZdD {p:Bs→Bool} (hg:∀ s nm,p nm=true→YB (g s nm)=YB nm):∀ l:List Tm,ZbT p l=true→Yj (xsL g l)=Yj l
 | [],_=>rfl
 | t :: r, h => by
   rw [ZbT,Bool.and_eq_true] at h
   simp only [xsL,Yj,Zgf hg t h.1,ZdD hg r h.2]
end
mutual
theorem Zf7:∀ t:Tm,(t.xs g).depth=t.depth
 | .mk k nm s b kz=>by simp only [Tm.xs,Tm.depth,ZdE kz]
theorem ZdE:∀ l:List Tm,Yf (xsL g l)=Yf l
 | []=>rfl
 |t::r=>by simp only [xsL,Yf,Zf7 t,ZdE r]
end
mutual
theorem Zoy:∀ t:Tm,(t.xs g).size=t.size
 | .mk k nm s b kz=>by simp only [Tm.xs,Tm.size,Zm4 kz]
theorem Zm4:∀ l:List Tm,Zl (xsL g l)=Zl l
 | []=>rfl
 |t::r=>by simp only [xsL,Zl,Zoy t,Zm4 r]
end
theorem Zsb {p:Bs→Bool} (hg:∀ s nm,p nm=true→YB (g s nm)=YB nm) {t:Tm} (hp:t.nmA p=true) (h:t.Fr):(t.xs g).Fr where
 v:=by
  have:=h.v
  unfold Tm.valid at this ⊢
  rwa [Zgf hg t hp,Zoy,Zf7]
 h:=by rw [ZpR];exact h.h
 g:=by rw [XU,Zns, ← XU];exact h.g
 f:=by rw [ZnA];exact h.f
mutual
theorem Zqm (hg:∀ s nm,nm.length≤1000→(g s nm).length≤2000):∀ t:Tm,t.nmA (fun s=>decide (s.length≤1000))=true→t.Ok→(t.xs g).Ok
 | .mk k nm s b kz, hp, h => by
   rw [Tm.nmA,Bool.and_eq_true,decide_eq_true_eq] at hp
   cases h with
   | mk hk hs hn hl ho =>
     refine .mk hk hs ?_ (by rw [ZaE];exact hl) (Zmz hg kz hp.2 ho)
     split
     · have := hg s nm hp.1
       unfold maxLen;omega
     · exact hn
theorem Zmz (hg:∀ s nm,nm.length≤1000→(g s nm).length≤2000):∀ l:List Tm,ZbT (fun s=>decide (s.length≤1000)) l=true→(∀ t,t∈l→t.Ok)→∀ t,t∈xsL g l→t.Ok
 | [],_,_,t,ht=>by cases ht
 | a :: r, hp, h, t, ht => by
   rw [ZbT,Bool.and_eq_true] at hp
   rcases List.mem_cons.1 ht with rfl|ht
   · exact Zqm hg a hp.1 (h a List.mem_cons_self)
   · exact Zmz hg r hp.2 (fun t ht=>h t (List.mem_cons_of_mem _ ht)) t ht
end
mutual
theorem Zgt {p q:Bs→Bool} (h:∀ s,p s=true→q s=true):∀ t:Tm,t.nmA p=true→t.nmA q=true
 | .mk k nm s b kz, hp => by
   rw [Tm.nmA,Bool.and_eq_true] at hp ⊢
   exact ⟨h _ hp.1,Zd0 h kz hp.2⟩
theorem Zd0 {p q:Bs→Bool} (h:∀ s,p s=true→q s=true):∀ l:List Tm,ZbT p l=true→ZbT q l=true
 | [],_=>rfl
 | t :: r, hp => by
   rw [ZbT,Bool.and_eq_true] at hp ⊢
   exact ⟨Zgt h t hp.1,Zd0 h r hp.2⟩
end
mutual
theorem Zrf {p q:Bs→Bool} (h:∀ s nm,p nm=true→q (g s nm)=true) (h2:∀ nm,p nm=true→q nm=true):∀ t:Tm,t.nmA p=true→(t.xs g).nmA q=true
 | .mk k nm s b kz, hp => by
   rw [Tm.nmA,Bool.and_eq_true] at hp
   rw [Tm.xs,Tm.nmA,ZiY h h2 kz hp.2,Bool.and_true]
   split
   · exact h _ _ hp.1
   · exact h2 _ hp.1
theorem ZiY {p q:Bs→Bool} (h:∀ s nm,p nm=true→q (g s nm)=true) (h2:∀ nm,p nm=true→q nm=true):∀ l:List Tm,ZbT p l=true→ZbT q (xsL g l)=true
 | [],_=>rfl
 | t :: r, hp => by
   rw [ZbT,Bool.and_eq_true] at hp
   rw [xsL,ZbT,Zrf h h2 t hp.1,ZiY h h2 r hp.2];rfl
end
mutual
theorem Zqo {p:Bs→Bool}:∀ t:Tm,t.cl.nmA p=t.nmA p
 | .mk k nm s b kz=>by simp only [Tm.cl,Tm.nmA,ZjX kz]
theorem ZjX {p:Bs→Bool}:∀ l:List Tm,ZbT p (clL l)=ZbT p l
 | []=>rfl
 |t::r=>by simp only [clL,ZbT,Zqo t,ZjX r]
end
mutual
theorem Zsp (g:Bs→Bs):∀ t:Tm,(t.cl.xt g).cl=(t.xt g).cl
 | .mk k nm s b kz=>by simp only [Tm.cl,Tm.xt,Zni g kz]
theorem Zni (g:Bs→Bs):∀ l:List Tm,clL (xtL g (clL l))=clL (xtL g l)
 | []=>rfl
 |t::r=>by simp only [clL,xtL,Zsp g t,Zni g r]
end
mutual
theorem Zra {g:Bs→Bs} (hg:∀ s,g (g s)=s):∀ t:Tm,((t.xt g).xt g).cl=t.cl
 | .mk k nm s b kz => by
   simp only [Tm.xt,Tm.cl,Zh6 hg kz]
   by_cases hk:k=2
   · simp only [if_pos hk,hg]
   · simp only [if_neg hk]
theorem Zh6 {g:Bs→Bs} (hg:∀ s,g (g s)=s):∀ l:List Tm,clL (xtL g (xtL g l))=clL l
 | []=>rfl
 |t::r=>by simp only [xtL,clL,Zra hg t,Zh6 hg r]
end
def lvs:List Tm:=[.mk 2 [110,97] 2 true [],.mk 2 [110,98] 2 true [],.mk 2 [107] 3 true [],.mk 2 [108] 3 true [],.mk 2 [103] 4 true [],.mk 2 [97] 1 true [],.mk 2 [104,105] 5 true [],.mk 2 [100] 0 true [],
 .mk 3 [115,107] 0 true [.mk 2 [97] 1 true []],.mk 3 [115,104,107] 0 true [.mk 2 [97] 1 true [],.mk 2 [98] 1 true []]]
def lvT (n:Nat):Tm:=lvs.getD (n % 10) (.mk 2 [110,97] 2 true [])
def byC (b:List Nat):List (List PV):=b.map fun (n:Nat)=>[PV.int .u8 (n:Int)]
def Zm3 (k:Nat) (x y:Tm):Tm:=if k=3∨k=4 then .mk 3 Zb8 0 true [x,y] else if k=5 then .mk 3 Wy 0 true [x,.mk 3 pkN 0 true [y]] else if k=6 then .mk 3 Y9 0 true [x,y] else .mk 3 Xf 0 true [x,y]
def grT (b:List Nat):Nat→Nat→Tm×Nat
 |0,i=>(lvT (b.getD i 0 / 3),i+1)
 | f + 1, i => if b.getD i 0 % 3 = 0 then (lvT (b.getD i 0 / 3), i + 1) else
   if b.getD i 0 / 3 % 11=0 then (.mk 3 Zhs 0 true [(grT b f (i+1)).1],(grT b f (i+1)).2) else
   if b.getD i 0 / 3 % 11=1 then (.mk 3 pkN 0 true [(grT b f (i+1)).1],(grT b f (i+1)).2) else
   (Zm3 (b.getD i 0 / 3 % 11) (grT b f (i+1)).1 (grT b f (grT b f (i+1)).2).1,(grT b f (grT b f (i+1)).2).2)
theorem ZfM (hc:b.getD i 0=c) (h:f=0∨c % 3=0):grT b f i=(lvT (c / 3),i+1):=by
 cases f with
 |zero=>rw [grT,hc]
 |succ f=>rw [grT,hc,if_pos (by omega)]
theorem ZrE (hc:b.getD i 0=c) (h:¬ c % 3=0) (h0:c / 3 % 11=0):grT b (f+1) i=(.mk 3 Zhs 0 true [(grT b f (i+1)).1],(grT b f (i+1)).2):=by
 rw [grT,hc,if_neg h,if_pos h0]
theorem ZsO (hc:b.getD i 0=c) (h:¬ c % 3=0) (h0:c / 3 % 11=1):grT b (f+1) i=(.mk 3 pkN 0 true [(grT b f (i+1)).1],(grT b f (i+1)).2):=by
 rw [grT,hc,if_neg h,if_neg (by omega),if_pos h0]
theorem ZsT (hc:b.getD i 0=c) (h:¬ c % 3=0) (h0:¬ c / 3 % 11=0) (h1:¬ c / 3 % 11=1):grT b (f+1) i=(Zm3 (c / 3 % 11) (grT b f (i+1)).1 (grT b f (grT b f (i+1)).2).1,(grT b f (grT b f (i+1)).2).2):=by
 rw [grT,hc,if_neg h,if_neg h0,if_neg h1]
theorem Ziv (b:List Nat):∀ f i,(grT b f i).2+1≤i+2 ^ (f+1)
 |0,i=>by simp only [grT];omega
 | f + 1, i => by
   have h1:=Ziv b f (i+1)
   have h2:=Ziv b f (grT b f (i+1)).2
   have hp:2 ^ (f+1) ≥ 2:=by
    have:=Nat.one_le_two_pow (n:=f)
    rw [Nat.pow_succ];omega
   have e:2 ^ (f+1+1)=2 ^ (f+1)*2:=Nat.pow_succ ..
   rw [grT]
   split
   · simp only;omega
   split
   · simp only;omega
   split
   · simp only;omega
   · simp only;omega
def apN:List (Bs×Nat):=[(Zhs,1),(pkN,1),(Zb8,2),(Wy,2),(Y9,2),(Xf,2)]
def pvN:List (Bs×Nat):=[([115,107],1),([115,104,107],2)]
def atN:List (Bs×Int):=[([110,97],2),([110,98],2),([107],3),([108],3),([103],4),([97],1),([98],1),([104,105],5),([100],0)]
def nmG (s:Bs):Bool:=((apN++pvN).map Prod.fst++atN.map Prod.fst).contains s
mutual
def Tm.gr:Tm→Bool
 | .mk k nm s _ kz=>if k=3 then decide (s=0)&&((apN.contains (nm,kz.length)||(pvN.contains (nm,kz.length)&&WF nm kz))&&grL kz) else decide (k=2)&&(atN.contains (nm,s)&&kz.isEmpty)
def grL:List Tm→Bool
 | []=>true
 |t::r=>t.gr&&grL r
end
def Zt0 (x:Bs×Nat):Bool:=Zpt x.1&&(decide (YF 3 x.1 0 x.2=0)&&(decide ((YA x.1).kind≠0)&&(decide (¬ ((x.2:Int)<(YA x.1).least∨(YA x.1).most<(x.2:Int)))&&(nmG x.1&&decide (x.1≠ [103]∧x.2≤2∧x.1.length≤4)))))
theorem ZkY:(apN++pvN).all Zt0=true:=by decide +kernel
theorem Zk5:apN.all (fun x=>decide ((YA x.1).kind≠2))=true:=by decide +kernel
theorem Zli:atN.all (fun x=>decide (YF 2 x.1 x.2 0=0)&&(nmG x.1&&decide (x.1.length≤4∧0≤x.2∧x.2≤5)))=true:=by decide +kernel
structure ApG (nm:Bs) (kz:List Tm):Prop where
 f:Zpt nm=true
 n:YF 3 nm 0 kz.length=0
 k:(YA nm).kind≠0
 a:¬ ((kz.length:Int)<(YA nm).least∨(YA nm).most<(kz.length:Int))
 g:nmG nm=true
 ne:nm≠ [103]
 l:kz.length≤2
 nl:nm.length≤4
 p:¬ ((YA nm).kind=2∧WF nm kz=false)
theorem Zah {b:Bool} (h:(Tm.mk 3 nm s b kz).gr=true):s=0∧ApG nm kz∧grL kz=true:=by
 rw [Tm.gr,if_pos rfl] at h
 simp only [Bool.and_eq_true,decide_eq_true_eq,Bool.or_eq_true,List.contains_iff_mem] at h
 obtain ⟨h1,h2,h3⟩:=h
 have hm:(nm,kz.length)∈apN++pvN:=by
  rw [List.mem_append]
  rcases h2 with h2|h2
  · exact .inl h2
  · exact .inr h2.1
 have hc:=List.all_eq_true.1 ZkY _ hm
 simp only [Zt0,Bool.and_eq_true,decide_eq_true_eq] at hc
 obtain ⟨c1,c2,c3,c4,c5,c6,c7,c8⟩:=hc
 refine ⟨h1,⟨c1,c2,c3,c4,c5,c6,c7,c8,?_⟩,h3⟩
 rcases h2 with h2|h2
 · have := List.all_eq_true.1 Zk5 _ h2
   rw [decide_eq_true_eq] at this
   exact fun h=>this h.1
 · exact fun h=>by rw [h2.2] at h;cases h.2
theorem Zhm {k:Int} {b:Bool} (hk:k≠3) (h:(Tm.mk k nm s b kz).gr=true):k=2∧kz= []∧(nm,s)∈atN∧YF 2 nm s 0=0∧nmG nm=true∧nm.length≤4∧0≤s∧s≤5:=by
 rw [Tm.gr,if_neg hk] at h
 simp only [Bool.and_eq_true,decide_eq_true_eq,List.contains_iff_mem,List.isEmpty_iff] at h
 have hc:=List.all_eq_true.1 Zli _ h.2.1
 simp only [Bool.and_eq_true,decide_eq_true_eq] at hc
 exact ⟨h.1,h.2.2,h.2.1,hc.1,hc.2.1,hc.2.2⟩
mutual
theorem ZfC:∀ t:Tm,t.gr=true→t.nodes=0
 | .mk k nm s b kz, h => by
   rw [Tm.nodes]
   by_cases hk:k=3
   · subst hk
     obtain ⟨rfl,ha,hl⟩:=Zah h
     rw [if_neg (by rw [ha.n];simp)]
     exact Zde kz hl
   · obtain ⟨rfl, rfl, -, h0, -⟩ := Zhm hk h
     rw [if_neg (by rw [List.length_nil,h0];simp)]
     rfl
theorem Zde:∀ l:List Tm,grL l=true→Yj l=0
 | [],_=>rfl
 | t :: r, h => by
   rw [grL,Bool.and_eq_true] at h
   rw [Yj,if_neg (by rw [ZfC t h.1];simp),Zde r h.2]
end
mutual
theorem Zq5:∀ t:Tm,t.gr=true→t.th=0
 | .mk k nm s b kz, h => by
   rw [Tm.th]
   by_cases hk:k=3
   · subst hk
     obtain ⟨rfl,ha,hl⟩:=Zah h
     rw [if_neg (by simp),if_neg ha.k,if_neg ha.a,if_neg ha.p]
     exact Znt kz hl
   · rw [if_pos hk]
theorem Znt:∀ l:List Tm,grL l=true→thL l=0
 | [],_=>rfl
 | t :: r, h => by
   rw [grL,Bool.and_eq_true] at h
   rw [thL,if_neg (by rw [Zq5 t h.1];simp),Znt r h.2]
end
mutual
theorem ZmL:∀ t:Tm,t.gr=true→t.fre=true
 | .mk k nm s b kz, h => by
   rw [Tm.fre]
   by_cases hk:k=3
   · subst hk
     obtain ⟨rfl,ha,hl⟩:=Zah h
     rw [if_pos rfl,ha.f,Zj4 kz hl];rfl
   · obtain ⟨rfl, rfl, -⟩ := Zhm hk h
     rw [if_neg hk];rfl
theorem Zj4:∀ l:List Tm,grL l=true→ZfZ l=true
 | [],_=>rfl
 | t :: r, h => by
   rw [grL,Bool.and_eq_true] at h
   rw [ZfZ,ZmL t h.1,Zj4 r h.2];rfl
end
mutual
theorem Zpm:∀ t:Tm,t.gr=true→t.nmA nmG=true
 | .mk k nm s b kz, h => by
   rw [Tm.nmA]
   by_cases hk:k=3
   · subst hk
     obtain ⟨rfl,ha,hl⟩:=Zah h
     rw [ha.g,Znz kz hl];rfl
   · obtain ⟨rfl, rfl, -, -, hg, -⟩ := Zhm hk h
     rw [hg];rfl
theorem Znz:∀ l:List Tm,grL l=true→ZbT nmG l=true
 | [],_=>rfl
 | t :: r, h => by
   rw [grL,Bool.and_eq_true] at h
   rw [ZbT,Zpm t h.1,Znz r h.2];rfl
end
mutual
theorem ZmD:∀ t:Tm,t.gr=true→((t.all.map Tm.knd).all fun k=> !decide (k=1))=true
 | .mk k nm s b kz, h => by
   rw [Tm.all,List.map_cons,List.all_cons]
   by_cases hk:k=3
   · subst hk
     obtain ⟨rfl,ha,hl⟩:=Zah h
     rw [Zjp kz hl];rfl
   · obtain ⟨rfl, rfl, -⟩ := Zhm hk h
     rfl
theorem Zjp:∀ l:List Tm,grL l=true→(((Vj l).map Tm.knd).all fun k=> !decide (k=1))=true
 | [],_=>rfl
 | t :: r, h => by
   rw [grL,Bool.and_eq_true] at h
   rw [Vj,List.map_append,List.all_append,ZmD t h.1,Zjp r h.2];rfl
end
mutual
theorem Zj3:∀ t:Tm,t.gr=true→t.Ok
 | .mk k nm s b kz, h => by
   by_cases hk:k=3
   · subst hk
     obtain ⟨rfl,ha,hl⟩:=Zah h
     exact .mk (by decide) (by decide) (Nat.le_trans ha.nl (by decide)) (Nat.le_trans ha.l (by decide)) (Zno kz hl)
   · obtain ⟨rfl, rfl, -, -, -, hn, h1, h2⟩ := Zhm hk h
     refine .mk (by decide) ?_ (Nat.le_trans hn (by decide)) (Nat.zero_le _) (fun _ h=>by cases h)
     have:s=0∨s=1∨s=2∨s=3∨s=4∨s=5:=by omega
     rcases this with rfl|rfl|rfl|rfl|rfl|rfl<;>decide
theorem Zno:∀ l:List Tm,grL l=true→∀ t,t∈l→t.Ok
 | [],_,t,ht=>by cases ht
 | a :: r, h, t, ht => by
   rw [grL,Bool.and_eq_true] at h
   rcases List.mem_cons.1 ht with e|ht
   · rw [e];exact Zj3 a h.1
   · exact Zno r h.2 t ht
end
theorem ZnS (l:List Tm):(clL l).isEmpty=l.isEmpty:=by cases l<;>rfl
theorem Zlk (n:Bs) (kz:List Tm):WF n (clL kz)=WF n kz:=by
 unfold WF
 by_cases h:n= [110,101,119]
 · rw [if_pos h, if_pos h]
   cases kz with
   | nil=>rfl
   | cons a r=>cases a;rfl
 · rw [if_neg h, if_neg h, Y8, List.all_map]
   congr 1
   funext x
   cases x;rfl
mutual
theorem Zpf:∀ t:Tm,t.cl.gr=t.gr
 | .mk k nm s b kz=>by rw [Tm.cl,Tm.gr,Tm.gr,ZmC kz,ZnS,Zlk,Y8,List.length_map]
theorem ZmC:∀ l:List Tm,grL (clL l)=grL l
 | []=>rfl
 |t::r=>by rw [clL,grL,grL,Zpf t,ZmC r]
end
theorem Zsi {t:Tm} (h:t.gr=true) (hs:t.size≤400) (hd:t.depth≤40):t.Fr where
 v:=by
  unfold Tm.valid
  rw [if_neg (by rw [ZfC t h];simp),if_neg (by omega)]
 h:=Zq5 t h
 g:=by rw [XU];exact ZmD t h
 f:=ZmL t h
theorem ZqT (n:Nat):(lvT n).gr=true∧(lvT n).size≤3∧(lvT n).depth≤2:=by
 have h:n % 10<10:=Nat.mod_lt _ (by omega)
 unfold lvT
 generalize n % 10=k at h ⊢
 have:k=0∨k=1∨k=2∨k=3∨k=4∨k=5∨k=6∨k=7∨k=8∨k=9:=by omega
 rcases this with rfl|rfl|rfl|rfl|rfl|rfl|rfl|rfl|rfl|rfl<;>decide +kernel
theorem gr1 (h:apN.contains (nm,1)=true) (hx:x.gr=true) (b:Bool):(Tm.mk 3 nm 0 b [x]).gr=true:=by
 simp only [Tm.gr,if_pos,grL,hx,List.length_cons,List.length_nil,h,decide_true,Bool.true_or,Bool.and_self]
theorem gr2 (h:apN.contains (nm,2)=true) (hx:x.gr=true) (hy:y.gr=true) (b:Bool):(Tm.mk 3 nm 0 b [x,y]).gr=true:=by
 simp only [Tm.gr,if_pos,grL,hx,hy,List.length_cons,List.length_nil,h,decide_true,Bool.true_or,Bool.and_self]
theorem ZpA (k:Nat) (hx:x.gr=true) (hy:y.gr=true):(Zm3 k x y).gr=true:=by
 unfold Zm3
 split
 · exact gr2 (by decide +kernel) hx hy _
 split
 · exact gr2 (by decide +kernel) hx (gr1 (by decide +kernel) hy _) _
 split
 · exact gr2 (by decide +kernel) hx hy _
 · exact gr2 (by decide +kernel) hx hy _
theorem ZqE (k:Nat) (x y:Tm):(Zm3 k x y).size≤x.size+y.size+2∧(Zm3 k x y).depth≤max x.depth y.depth+2:=by
 unfold Zm3
 split
 · simp only [Tm.size,Zl,Tm.depth,Yf];omega
 split
 · simp only [Tm.size,Zl,Tm.depth,Yf];omega
 split
 · simp only [Tm.size,Zl,Tm.depth,Yf];omega
 · simp only [Tm.size,Zl,Tm.depth,Yf];omega
theorem Zbt (b:List Nat):∀ f i,(grT b f i).1.gr=true∧(grT b f i).1.size+2≤5*2 ^ f∧(grT b f i).1.depth≤2*f+2
 | 0, i => by
   have:=ZqT (b.getD i 0 / 3)
   simp only [grT]
   exact ⟨this.1,by omega,by omega⟩
 | f + 1, i => by
   obtain ⟨a1,a2,a3⟩:=Zbt b f (i+1)
   obtain ⟨b1,b2,b3⟩:=Zbt b f (grT b f (i+1)).2
   have e:2 ^ (f+1)=2 ^ f*2:=Nat.pow_succ ..
   have e1:=Nat.one_le_two_pow (n:=f)
   rw [grT]
   split
   · have := ZqT (b.getD i 0 / 3)
     exact ⟨this.1,by simp only;omega,by simp only;omega⟩
   split
   · exact ⟨gr1 (by decide +kernel) a1 _,by simp only [Tm.size,Zl];omega,by simp only [Tm.depth,Yf];omega⟩
   split
   · exact ⟨gr1 (by decide +kernel) a1 _,by simp only [Tm.size,Zl];omega,by simp only [Tm.depth,Yf];omega⟩
   · have := ZqE (b.getD i 0 / 3 % 11) (grT b f (i + 1)).1 (grT b f (grT b f (i + 1)).2).1
     exact ⟨ZpA _ a1 b1,by simp only;omega,by simp only;omega⟩
def ZkU (b:List Nat):Tm:=((grT b 3 0).1.nf false).1
theorem ZiL (b:List Nat):(grT b 3 0).1.Fr:=by
 obtain ⟨h1,h2,h3⟩:=Zbt b 3 0
 exact Zsi h1 (by omega) (by omega)
theorem ZjF (b:List Nat):(ZkU b).cl=(grT b 3 0).1.cl:=(Zfp false (ZiL b)).2
theorem ZdG (b:List Nat):(ZkU b).gr=true:=by rw [← Zpf,ZjF,Zpf];exact (Zbt b 3 0).1
theorem Znk (b:List Nat):(ZkU b).Fr:=Ztf (ZjF b) (ZiL b)
theorem ZnR (b:List Nat):(ZkU b).size≤40:=by
 rw [← Zc3,ZjF,Zc3]
 have:=(Zbt b 3 0).2.1
 omega
def ZkV (d:Nat) (s:Int) (nm:Bs):Bs:=if s≠1∧s≠5∧¬ (nm= [103]∧s=4) then nm++ [35,UInt8.ofNat (48+d)] else nm
theorem Zre (h:d<10):Ws (UInt8.ofNat (48+d))=true:=by
 have:d=0∨d=1∨d=2∨d=3∨d=4∨d=5∨d=6∨d=7∨d=8∨d=9:=by omega
 rcases this with rfl|rfl|rfl|rfl|rfl|rfl|rfl|rfl|rfl|rfl<;>decide +kernel
theorem Zl2 (hd:d<10) (s:Int) (nm:Bs) (h:nmG nm=true):YB (ZkV d s nm)=YB nm:=by
 unfold ZkV
 split
 · have hp := Zre hd
   generalize UInt8.ofNat (48+d)=c at hp ⊢
   simp only [nmG,List.contains_iff_mem] at h
   have hall:(((apN++pvN).map Prod.fst++atN.map Prod.fst).all fun x=>YB x&&decide (x.length≤4))=true:=by decide +kernel
   have h1:=List.all_eq_true.1 hall _ h
   rw [Bool.and_eq_true,decide_eq_true_eq] at h1
   rw [h1.1]
   cases nm with
   | nil=>simp [YB] at h1
   | cons x r =>
     have h2:=h1.2
     have h1:=h1.1
     simp only [YB,List.length_cons,List.all_cons,Bool.and_eq_true,decide_eq_true_eq] at h1
     simp only [List.length_cons] at h2
     have e35:Ws 35=true:=by decide +kernel
     simp only [YB,List.cons_append,List.length_cons,List.length_append,List.length_nil,List.all_cons,List.all_append,List.all_nil,hp,e35,h1.2.1,h1.2.2.1,h1.2.2.2]
     simp;omega
 · rfl
def VZ (b:List Nat) (d:Nat):Tm:=(ZkU b).xs (ZkV d)
theorem ZnH (b:List Nat) (hd:d<10):(VZ b d).Fr:=Zsb (Zl2 hd) (Zpm _ (ZdG b)) (Znk b)
theorem Zja (b : List Nat) (d : Nat) : (VZ b d).Ok := Zqm (fun s nm h => by
  unfold ZkV
  split
  · simp;omega
  · omega) _ (Zgt (fun s h => by
    have hall:(((apN++pvN).map Prod.fst++atN.map Prod.fst).all fun x=>decide (x.length≤1000))=true:=by decide +kernel
    simp only [nmG,List.contains_iff_mem] at h
    exact List.all_eq_true.1 hall _ h) _ (Zpm _ (ZdG b))) (Zj3 _ (ZdG b))
theorem ZmP (b:List Nat) (d:Nat):(VZ b d).size≤40:=by rw [VZ,Zoy];exact ZnR b
open Go.Sort
theorem YS (a b:Tm):b.cmp a= - a.cmp b:=(Wd (max a.size b.size)).anti a b (Nat.le_max_left _ _) (Nat.le_max_right _ _)
theorem QU {b c:Tm} (h1:a.cmp b≤0) (h2:b.cmp c<0):a.cmp c<0:=
 (Wd (max a.size (max b.size c.size))).strict2 (by omega) (by omega) (by omega) h1 h2
theorem WA (a:Tm):a.cmp a=0:=by have:=YS a a;omega
def Zmf (l:List Tm):Prop:=l.Pairwise fun a b=>a.cmp b<0
def InC (x:Tm) (l:List Tm):Prop:=∃ y,y∈l∧x.cmp y=0
theorem Uw:¬ InC x []:=fun ⟨_,h,_⟩=>by cases h
theorem Yo:InC x (a::l)↔x.cmp a=0∨InC x l:=by
 constructor
 · rintro ⟨y, h, e⟩
   rcases List.mem_cons.1 h with rfl|h
   · exact .inl e
   · exact .inr ⟨y,h,e⟩
 · rintro (h | ⟨y, h, e⟩)
   · exact ⟨a,List.mem_cons_self,h⟩
   · exact ⟨y,List.mem_cons_of_mem _ h,e⟩
theorem Xb:InC x (l++m)↔InC x l∨InC x m:=by
 constructor
 · rintro ⟨y, h, e⟩
   rcases List.mem_append.1 h with h|h
   · exact .inl ⟨y,h,e⟩
   · exact .inr ⟨y,h,e⟩
 · rintro (⟨y, h, e⟩ | ⟨y, h, e⟩)
   · exact ⟨y,List.mem_append_left _ h,e⟩
   · exact ⟨y,List.mem_append_right _ h,e⟩
theorem ZoJ (h:∀ y,y∈l↔y∈m):InC x l↔InC x m:=⟨fun ⟨y,a,e⟩=>⟨y,(h y).1 a,e⟩,fun ⟨y,a,e⟩=>⟨y,(h y).2 a,e⟩⟩
theorem ZlV (hne:l≠ []) (h:∀ t,t∈l→t.size≤N):(Y2 l).Pairwise fun a b=>a.cmp b≤0:=by
 have hs:=(Ui hne h).2
 have hz:=Uk hne h
 rw [List.pairwise_iff_getElem]
 intro i j hi hj hij
 have li:i<(YP l).size:=by simpa [Y2] using hi
 have lj:j<(YP l).size:=by simpa [Y2] using hj
 have:=hs i j (Nat.zero_le _) hij (by omega)
 rw [Zc1] at this
 simp only [ZaR] at this
 rw [getElem!_pos (YP l) i li,getElem!_pos (YP l) j lj] at this
 simp only [Y2,List.getElem_map,Array.getElem_toList]
 have q:=YS (gtT l (YP l)[i]) (gtT l (YP l)[j])
 omega
def kpF (L:List Tm):Nat→List Tm
 |0=>[]
 | n + 1 => kpF L n ++ (match L[n]?, L[n - 1]? with
   | some x,some y=>if n=0∨x.cmp y≠0 then [x] else []
   | _,_=>[])
theorem ZnE {r:List Tm}:kpF (a::r) 1= [a]:=by simp [kpF]
theorem ZeQ {L:List Tm} {n:Nat} (h0:0<n) (hx:L[n]? = some x) (hy:L[n-1]? = some y):kpF L (n+1)=kpF L n++if x.cmp y=0 then [] else [x]:=by
 simp only [kpF,hx,hy]
 by_cases h:x.cmp y=0
 · rw [if_neg (by omega),if_pos h]
 · rw [if_pos (.inr h),if_neg h]
theorem Zgk (L:List Tm):∀ n,(kpF L n).length≤n
 |0=>Nat.le_refl _
 | n + 1 => by
   have:=Zgk L n
   simp only [kpF,List.length_append]
   split
   · split<;>simp<;>omega
   · simp;omega
theorem ZmM {L:List Tm} (hne:L≠ []):∀ n,0<n→kpF L n≠ []
 |0,h=>absurd h (Nat.lt_irrefl _)
 | 1, _ => by cases L with
   | nil=>exact absurd rfl hne
   | cons a r=>rw [ZnE];simp
 | n + 2, _ => by
   have:=ZmM hne (n+1) (Nat.succ_pos n)
   rw [kpF]
   intro e
   exact this (List.append_eq_nil_iff.1 e).1
theorem ZjN {L:List Tm} (hs:L.Pairwise fun a b=>a.cmp b≤0):∀ n,n≤L.length→Zmf (kpF L n)∧(∀ x,InC x (kpF L n)↔InC x (L.take n))∧∀ x,x∈kpF L n→x∈L.take n
 |0,_=>⟨List.Pairwise.nil,fun x=>by simp [kpF],fun x h=>by simp [kpF] at h⟩
 | n + 1, hn => by
   obtain ⟨h1,h2,h3⟩:=ZjN hs n (by omega)
   obtain ⟨x,hx⟩:∃ x,L[n]? = some x:=⟨L[n],by simp⟩
   have htk:L.take (n+1)=L.take n++ [x]:=by rw [List.take_add_one,hx];rfl
   by_cases h0:n=0
   · subst h0
     have e:kpF L 1= [x]:=by simp [kpF,hx]
     rw [e,htk]
     refine ⟨List.pairwise_cons.2 ⟨fun _ h=>(by cases h),.nil⟩,fun y=>by simp,fun y h=>by simpa using h⟩
   obtain ⟨y,hy⟩:∃ y,L[n-1]? = some y:=⟨L[n-1]'(by omega),by simp⟩
   rw [ZeQ (by omega) hx hy,htk]
   have hpw:=List.pairwise_iff_getElem.1 hs
   have hyx:y.cmp x≤0:=by
    have:=hpw (n-1) n (by omega) (by omega) (by omega)
    rw [List.getElem?_eq_getElem (by omega)] at hx hy
    simp only [Option.some.injEq] at hx hy
    rwa [hx,hy] at this
   have hle:∀ z,z∈L.take n→z.cmp y≤0:=fun z hz=>by
    obtain ⟨i,hi,rfl⟩:=List.mem_iff_getElem.1 hz
    rw [List.length_take] at hi
    rw [List.getElem_take]
    by_cases e:i=n-1
    · subst e
      rw [List.getElem?_eq_getElem (by omega)] at hy
      simp only [Option.some.injEq] at hy
      rw [hy]
      exact Int.le_of_eq (WA y)
    · have := hpw i (n - 1) (by omega) (by omega) (by omega)
      rw [List.getElem?_eq_getElem (by omega)] at hy
      simp only [Option.some.injEq] at hy
      rwa [hy] at this
   by_cases c:x.cmp y=0
   · rw [if_pos c, List.append_nil]
     refine ⟨h1,fun z=>?_,fun z hz=>List.mem_append_left _ (h3 z hz)⟩
     rw [h2,Xb]
     refine ⟨.inl,fun h=>h.elim id fun h=>?_⟩
     rcases Yo.1 h with h|h
     · refine ⟨y, ?_, Yc.2 ((Yc.1 h).trans (Yc.1 c))⟩
       rw [List.mem_iff_getElem?]
       exact ⟨n-1,by rw [List.getElem?_take_of_lt (by omega)];exact hy⟩
     · exact absurd h Uw
   · rw [if_neg c]
     have hlt:y.cmp x<0:=by have:=YS x y;omega
     refine ⟨List.pairwise_append.2 ⟨h1,List.pairwise_cons.2 ⟨fun _ h=>(by cases h),.nil⟩,fun a ha b hb=>?_⟩,fun z=>by rw [Xb,Xb,h2],fun z hz=>?_⟩
     · rw [List.mem_singleton.1 hb]
       exact QU (hle a (h3 a ha)) hlt
     · rcases List.mem_append.1 hz with h | h
       · exact List.mem_append_left _ (h3 z h)
       · exact List.mem_append_right _ h
def XW (l:List Tm):List Tm:=kpF (Y2 l) l.length
theorem YG (hne:l≠ []) (h:∀ t,t∈l→t.size≤N):Zmf (XW l)∧(∀ x,InC x (XW l)↔InC x l)∧∀ x,x∈XW l→x∈l:=by
 have hp:=VV hne h
 obtain ⟨h1,h2,h3⟩:=ZjN (ZlV hne h) l.length (by rw [hp.length_eq];exact Nat.le_refl _)
 have htk:(Y2 l).take l.length=Y2 l:=by rw [← hp.length_eq,List.take_length]
 rw [htk] at h2 h3
 exact ⟨h1,fun x=>(h2 x).trans (ZoJ fun y=>hp.mem_iff),fun x hx=>hp.mem_iff.1 (h3 x hx)⟩
section
variable {E:Env} {P:Program} {own:Tmp→Bool} {n:Nat} {K:TM→Heap→Prop} {tm:TM}
end
section
variable {E:Env} {P:Program}
def Gh.lay (g' g:Gh):Gh:={g' with σ:=g.σ,κ:=g.κ}
theorem CodeTo.switch {own own':Tmp→Bool} {n id:Nat} {ops:Array Oper} {c:Code} {tm tm':TM} {H H':Heap} {ex:Ex} (h:CodeTo E P own' n c tm H ex tm' H'):c= .region id ops true→CodeTo E P own n c tm H ex tm' H':=by
 induction h with
 |draw id ops tm H tm' H' h=>intro _;exact .draw id ops tm H tm' H' h
 |drop c tm H ex tm' H' tm2 _ hs hu ih=>intro hc;exact .drop c tm H ex tm' H' tm2 (ih hc) hs hu
 |_=>intro hc;cases hc
theorem Wp.switch {own:Tmp→Bool} (own':Tmp→Bool) {n id:Nat} {ops:Array Oper} {Q:Ex→TM→Heap→Prop} {tm:TM} {H:Heap} (h:Wp E P own' n (.region id ops true) Q tm H):Wp E P own n (.region id ops true) Q tm H:=by
 obtain ⟨ex,tm',H',h1,h2⟩:=h.out
 exact ⟨ex,tm',H',h1.switch rfl,h2⟩
end
open Go.RowKit
section
variable {E:Env} {P:Program} {w:World}
theorem ZjG {f : FuncId} {fn : Func} {c : Code} (hf : FnOk P f fn c) (hG : GOk E (wG w)) {args : List PV} {r : PV} (h : CallOk E P f args hNil r hNil) {vals : Array Value} (hv : Vl (wS w) args vals.toList) :
  Calls P f vals w fun e w'=>∃ v,e= .returned v∧(∃ g',V g' r v)∧GrownB w w'∧∀ k,k<w.heap.size→w'.heap[k]? = w.heap[k]? :=by
 have hu:=h (wG w) w vals (Znr w) hG ⟨hv.1,fun i h1 h2=> .pure _ _ (hv.2 i h1 h2)⟩
 rw [ZN hf] at hu
 exact Calls.mono hu fun e w' ⟨v,e1,g',hp,_,k⟩=>⟨v,e1,⟨g',hp⟩,ZcL k,fun i hi=>k.heap i hi (VS _ i)⟩
end
section
variable {P:Program} {H:Type} {enc:TypeId×Value→H} {w:World} {base:Nat} {spare:Nat→Bool} {held:Bool}
theorem Zmb {t e : TypeId} (ht : P.underlying t = some (.slice e)) (he : P.underlying e = some .string) (hs : P.cellsOf e = 1) (l : List (List UInt8)) (h0 : 0 < l.length) {fuel : Nat} {cs : List Value} {p : List MemPlace}
  (h:DataW.trod enc P w base spare held (fuel+1) t cs=some (.slice (l.map fun s=> .lit (.string s)) [],p)):Vl (wS w) [.sl .none 1 (l.map fun s=>[.str s])] cs:=by
 rcases DataW.trod_slice ht h with ⟨rfl,hx⟩|⟨a,len,cap,elems,rest,m,hm,rfl,hx,hb,hl,hcap,hlen,hel, -, -⟩
 · simp at hx
 · cases hm
   simp only [Prod.mk.injEq,DataW.slice.injEq] at hx
   obtain ⟨⟨hx, -⟩, -⟩:=hx
   have hle:l.length=elems.length:=by
    have:=congrArg List.length hx
    simpa using this
   have hcell:∀ i (hi:i<l.length),∃ s:ByteArray,w.cell? (a.add i)=some (.string s)∧s.data.toList=l[i]:=fun i hi=>by
    have hy:=hel i (by omega)
    have hz:elems[i]? = some (elems[i]'(by omega)):=List.getElem?_eq_getElem (by omega)
    rw [hz,Option.bind_eq_some_iff] at hy
    obtain ⟨cs',hc1,hc2⟩:=hy
    rw [hs] at hc1
    cases fuel with
    | zero=>simp [DataW.trod] at hc2
    | succ n =>
      obtain ⟨s,rfl,he2, -⟩:=DataW.trod_string he hc2
      have:=(World.cells?_some hc1).2.2 0 (by omega)
      refine ⟨s,?_,?_⟩
      · simpa [Addr.add] using this
      · have e1 : (l.map fun s => DataW.lit (H := H) (.string s))[i]? = some (.lit (.string l[i])) := by simp [hi]
        rw [hx,List.getElem?_map,hz] at e1
        simp only [Option.map_some,he2,Option.some.injEq,DataW.lit.injEq,Lit.string.injEq] at e1
        exact e1
   have hspot:a=⟨a.block,a.off,none⟩:=by
    obtain ⟨s,h1, -⟩:=hcell 0 h0
    simp only [Addr.add,if_true] at h1
    obtain ⟨ab,ao,asp⟩:=a
    cases asp with
    | none=>rfl
    | some z =>
      simp only [World.cell?] at h1
      split at h1
      · simp at h1
      · cases h1
   have hll:(l.map fun s=>[PV.str s]).length=len:=by simp;omega
   refine ⟨rfl,fun k hi hj=>?_⟩
   obtain rfl:k=0:=by simp at hi;omega
   simp only [List.getElem_cons_zero]
   have key:V0 (wS w) (.sl .none 1 (l.map fun s=>[.str s])) (.slice (some a) (l.map fun s=>[PV.str s]).length cap):=by
    refine .sl .none 1 _ a a.block a.off cap (fun i _=>(w.cell? (a.add i)).getD undef) (fun _=>hspot) (.inl rfl) (by omega) (fun i hi=>by simp) (fun i j hi hj=>?_) (fun i hi j hj=>?_)
    · obtain rfl : j = 0 := by omega
      obtain ⟨s,h1, -⟩:=hcell i (by simpa using hi)
      simp only [wS]
      have e:a.add i=⟨a.block,a.off+i*1+0,none⟩:=by
       have e0:∀ A:Addr,A=⟨a.block,a.off,none⟩→A.add i=⟨a.block,a.off+i*1+0,none⟩:=fun A hA=>by rw [hA,Z1];simp
       exact e0 a hspot
      rw [← e,h1]
      rfl
    · obtain rfl : j = 0 := by simp at hj; omega
      obtain ⟨s,h1,h2⟩:=hcell i (by simpa using hi)
      rw [h1]
      simp only [Option.getD_some,List.getElem_map,List.getElem_cons_zero]
      exact .str _ _ h2
   rwa [hll] at key
end
