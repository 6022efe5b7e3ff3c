/-
  As VmRd, with the bulk of what is read: the values and letters that a reading ho
-/
import Derived.Test.YtcopccjkfbmpcaaGreatDoorFi
import Derived.LaidByTextLater
namespace Go.Vm
variable {ops:Array Oper} {N d i n0 nt nt' ro:Nat} {all r:List Oper} {s ty:TypeId} {pos:String} {aft:Array Edge} {grd:Option (Nat×Bool)} {X Y p:PV} {f:Operand} {args:Array Operand} {ats:Array TypeId} {k:FuncId} {al caps cs:List PV} {H1:Heap} {a b c x:Tm} {l m:List Tm} {bx:List Box} {lv lv':List Nat} {si:TI}
section
variable {E:Env} {P:Program} {own:Tmp→Bool} {n:Nat} {K:TM→Heap→Prop} {tm:TM} {H:Heap}
theorem dCe
  (hw:Zg ops.toList tm ⟨some d,.call {callee:= .value f,args:=args,argTypes:=ats},ty,pos,aft,grd⟩=some true) (hn:Nat.blt d n=true) (hf:Zi E tm f= .fn k caps)
  (ha:args.toList.map (Zi E tm)++caps=al) (hc:YN E own ⟨some d,.call {callee:= .value f,args:=args,argTypes:=ats},ty,pos,aft,grd⟩= .ef) (h:CallOk E P k al H p H1) (hl:H.bx.length≤H1.bx.length)
  (hr:DrwQ E P own n ops n0 (i+1) r K (ZM tm (some d) p) H1):DrwQ E P own n ops n0 i (⟨some d,.call {callee:= .value f,args:=args,argTypes:=ats},ty,pos,aft,grd⟩::r) K tm H:=by
 refine .stepN (p:=p) (H1:=H1) (by simp only [Xq,hn]) (.inr (.inl hc)) (fun ho'=>?_) hr
 have hci:=(Xw (E:=E) (own:=own) ho').trans hc
 refine ⟨by rw [hci];simp,.inr (.inl ⟨by rw [hci];exact ⟨by simp,by simp,by simp⟩,?_⟩)⟩
 have:=Hp.ef (E:=E) (P:=P) (own:=own) (ops:=ops) (n0:=n0) (cls:=YT E own ops) (tgt:=fun _=>n0) (msk:=fun _=>[]) (i:=i) (o:=⟨some d,.call {callee:= .value f,args:=args,argTypes:=ats},ty,pos,aft,grd⟩) (tm:=tm) H p H1 hw hci
  (.call _ _ _ _ _ _ _ rfl hf (by rw [ha];exact h)) hl
 exact this
end
section
variable {E:Env} {P:Program} {own:Tmp→Bool} {n:Nat} {K:TM→Heap→Prop} {tm:TM} {H:Heap}
theorem qLk {t : TypeId} {x i : Operand} {ok : Bool} {p' : PV} (hw : Zg all tm ⟨some d, .lookup t x i ok, ty, pos, aft, grd⟩ = some true) (hn : Nat.blt d n = true) (hx : Zi E tm x = X) (hy : Zi E tm i = Y) (h : X6 E t X Y ok H = some p) (hv : IsV p p')
  (hr:RegQ E P own n all r K (ZM tm (some d) p') H):RegQ E P own n all (⟨some d,.lookup t x i ok,ty,pos,aft,grd⟩::r) K tm H:= .run hw rfl hn (p:=p) (by simp only [aOp,hx,hy,h,Option.map_some]) hv hr
theorem qMu {t : TypeId} {m k v : Operand} {Z : PV} (hw : Zg all tm ⟨none, .mapUpdate t m k v, ty, pos, aft, grd⟩ = some true) (hx : Zi E tm m = X) (hy : Zi E tm k = Y) (hz : Zi E tm v = Z) (h : Yc E t X Y Z H = some H1)
  (hr:RegQ E P own n all r K tm H1):RegQ E P own n all (⟨none,.mapUpdate t m k v,ty,pos,aft,grd⟩::r) K tm H:=
 .op (p:= .undef) hw rfl (by simp only [aOp,hx,hy,hz,h,Option.map_some]) hr
end
def mpI (l:List (Int×Bool)):List (PV×PV):=l.map fun x=>(.int .i64 x.1,.bool x.2)
def mpS (l:List (List UInt8×Bool)):List (PV×PV):=l.map fun x=>(.str x.1,.bool x.2)
def lkB {α:Type} [DecidableEq α] (k:α):List (α×Bool)→Bool
 | []=>false
 |(x,b)::r=>if k=x then b else lkB k r
def upB {α:Type} [DecidableEq α] (k:α) (v:Bool):List (α×Bool)→List (α×Bool)
 | []=>[(k,v)]
 |(x,b)::r=>if k=x then (k,v)::r else (x,b)::upB k v r
theorem Zjn {α:Type} [DecidableEq α] (k j:α) (v:Bool):∀ l:List (α×Bool),lkB j (upB k v l)=if j=k then v else lkB j l
 | []=>by simp [upB,lkB]
 | (x, b) :: r => by
   simp only [upB]
   split
   · rename_i h
     subst h
     simp only [lkB]
     split<;>rfl
   · rename_i h
     simp only [lkB,Zjn k j v r]
     split
     · rename_i h2
       subst h2
       rw [if_neg fun e=>h e.symm]
     · rfl
theorem Zh2 (k : Int) : ∀ (l : List (Int × Bool)) (i : Nat), ∃ r, VT (.int .i64 k) (mpI l) i = some r ∧ (match r with | some (_, v) => v = .bool (lkB k l) | none => lkB k l = false) ∧
  (match r with|some (j,_)=>i≤j∧(mpI l).set (j-i) (.int .i64 k,.bool true)=mpI (upB k true l)∧(mpI l).set (j-i) (.int .i64 k,.bool false)=mpI (upB k false l)|none=>∀ v,mpI l++ [(.int .i64 k,.bool v)]=mpI (upB k v l))
 | [],i=>⟨none,rfl,rfl,fun v=>rfl⟩
 | (x, b) :: r, i => by
   by_cases h:k=x
   · subst h
     refine ⟨some (i,.bool b),?_,?_,Nat.le_refl _,?_,?_⟩
     · simp [mpI,VT,Zd9]
     · simp [lkB]
     · simp [mpI,upB]
     · simp [mpI,upB]
   · obtain ⟨q, h1, h2, h3⟩ := Zh2 k r (i + 1)
     refine ⟨q,?_,?_,?_⟩
     · simp only [mpI, List.map_cons, VT, Zd9, if_true]
       have e:(k==x)=false:=by simpa using h
       rw [e]
       exact h1
     · simp only [lkB, if_neg h]
       exact h2
     · cases q with
       | none =>
         intro v
         have:=h3 v
         simp only [upB,if_neg h,mpI,List.map_cons,List.cons_append] at this ⊢
         rw [this]
       | some z =>
         obtain ⟨j,w⟩:=z
         obtain ⟨a1,a2,a3⟩:=h3
         refine ⟨by omega,?_,?_⟩
         all_goals
          rw [show j-i=(j-(i+1))+1 by omega]
          simp only [upB,if_neg h,mpI,List.map_cons,List.set_cons_succ] at a2 a3 ⊢
          first|rw [a2]|rw [a3]
theorem Zia (k : List UInt8) : ∀ (l : List (List UInt8 × Bool)) (i : Nat), ∃ r, VT (.str k) (mpS l) i = some r ∧ (match r with | some (_, v) => v = .bool (lkB k l) | none => lkB k l = false) ∧
  (match r with|some (j,_)=>i≤j∧(mpS l).set (j-i) (.str k,.bool true)=mpS (upB k true l)∧(mpS l).set (j-i) (.str k,.bool false)=mpS (upB k false l)|none=>∀ v,mpS l++ [(.str k,.bool v)]=mpS (upB k v l))
 | [],i=>⟨none,rfl,rfl,fun v=>rfl⟩
 | (x, b) :: r, i => by
   by_cases h:k=x
   · subst h
     refine ⟨some (i,.bool b),?_,?_,Nat.le_refl _,?_,?_⟩
     · simp [mpS,VT,Zd9]
     · simp [lkB]
     · simp [mpS,upB]
     · simp [mpS,upB]
   · obtain ⟨q, h1, h2, h3⟩ := Zia k r (i + 1)
     refine ⟨q,?_,?_,?_⟩
     · simp only [mpS, List.map_cons, VT, Zd9]
       have e:(k==x)=false:=by simpa using h
       rw [e]
       exact h1
     · simp only [lkB, if_neg h]
       exact h2
     · cases q with
       | none =>
         intro v
         have:=h3 v
         simp only [upB,if_neg h,mpS,List.map_cons,List.cons_append] at this ⊢
         rw [this]
       | some z =>
         obtain ⟨j,w⟩:=z
         obtain ⟨a1,a2,a3⟩:=h3
         refine ⟨by omega,?_,?_⟩
         all_goals
          rw [show j-i=(j-(i+1))+1 by omega]
          simp only [upB,if_neg h,mpS,List.map_cons,List.set_cons_succ] at a2 a3 ⊢
          first|rw [a2]|rw [a3]
section
variable {E:Env} {t kt e:TypeId} {ti ei:TI} {id:Nat} {H:Heap}
theorem ZsC {l : List (Int × Bool)} {n : Int} (ht : E.T t = some ti) (hk : ti.tk = .map kt e) (hko : Zde E kt (.int .i64 n) = true) (he : E.T e = some ei) (hz : ei.zero = .bool false) (hb : nth H.bx id = some (.map (mpI l))) :
  X6 E t (.map id) (.int .i64 n) false H=some (.bool (lkB n l)):=by
 obtain ⟨r,h1,h2, -⟩:=Zh2 n l 0
 simp only [X6,ht,hk,hko,if_true,hb,h1]
 cases r with
 |none=>simp only [he,hz];rw [show lkB n l=false from h2];rfl
 |some z=>obtain ⟨j,v⟩:=z;simp only;rw [show v= .bool (lkB n l) from h2];rfl
theorem ZsB {l : List (List UInt8 × Bool)} {n : List UInt8} (ht : E.T t = some ti) (hk : ti.tk = .map kt e) (hko : Zde E kt (.str n) = true) (he : E.T e = some ei) (hz : ei.zero = .bool false) (hb : nth H.bx id = some (.map (mpS l))) :
  X6 E t (.map id) (.str n) false H=some (.bool (lkB n l)):=by
 obtain ⟨r,h1,h2, -⟩:=Zia n l 0
 simp only [X6,ht,hk,hko,if_true,hb,h1]
 cases r with
 |none=>simp only [he,hz];rw [show lkB n l=false from h2];rfl
 |some z=>obtain ⟨j,v⟩:=z;simp only;rw [show v= .bool (lkB n l) from h2];rfl
theorem ZsR {l : List (Int × Bool)} {n : Int} (v : Bool) (ht : E.T t = some ti) (hk : ti.tk = .map kt e) (hko : Zde E kt (.int .i64 n) = true) (hb : nth H.bx id = some (.map (mpI l))) (hr : H.ro ≤ id) :
  Yc E t (.map id) (.int .i64 n) (.bool v) H=some {H with bx:=H.bx.set id (.map (mpI (upB n v l)))}:=by
 obtain ⟨r,h1, -,h3⟩:=Zh2 n l 0
 simp only [Yc,ht,hk,hko,if_true,hb,h1,Heap.put]
 cases r with
 |none=>simp only [if_neg (show ¬ id<H.ro by omega)];rw [show mpI l++ [(.int .i64 n,.bool v)]=mpI (upB n v l) from h3 v]
 | some z =>
   obtain ⟨j,w⟩:=z
   obtain ⟨-,a2,a3⟩:=h3
   rw [Nat.sub_zero] at a2 a3
   simp only [if_neg (show ¬ id<H.ro by omega)]
   cases v
   · rw [a3]
   · rw [a2]
theorem Zsx {l : List (List UInt8 × Bool)} {n : List UInt8} (v : Bool) (ht : E.T t = some ti) (hk : ti.tk = .map kt e) (hko : Zde E kt (.str n) = true) (hb : nth H.bx id = some (.map (mpS l))) (hr : H.ro ≤ id) :
  Yc E t (.map id) (.str n) (.bool v) H=some {H with bx:=H.bx.set id (.map (mpS (upB n v l)))}:=by
 obtain ⟨r,h1, -,h3⟩:=Zia n l 0
 simp only [Yc,ht,hk,hko,if_true,hb,h1,Heap.put]
 cases r with
 |none=>simp only [if_neg (show ¬ id<H.ro by omega)];rw [show mpS l++ [(.str n,.bool v)]=mpS (upB n v l) from h3 v]
 | some z =>
   obtain ⟨j,w⟩:=z
   obtain ⟨-,a2,a3⟩:=h3
   rw [Nat.sub_zero] at a2 a3
   simp only [if_neg (show ¬ id<H.ro by omega)]
   cases v
   · rw [a3]
   · rw [a2]
end
theorem Zgs (n:Nat) (l:List (Int×Bool)):YS n (.map (mpI l))=true:=by
 simp only [YS,mpI,List.all_map,List.all_eq_true]
 intro x _
 rfl
theorem Zhk (n:Nat) (l:List (List UInt8×Bool)):YS n (.map (mpS l))=true:=by
 simp only [YS,mpS,List.all_map,List.all_eq_true]
 intro x _
 rfl
open Go.Sort
theorem YE (a b:Tm):b.cmp a= - a.cmp b:=(XT (max a.size b.size)).anti a b (Nat.le_max_left _ _) (Nat.le_max_right _ _)
theorem Zib (h1:a.cmp b≤0) (h2:b.cmp c≤0):a.cmp c≤0:=
 (XT (max a.size (max b.size c.size))).tr a b c (by omega) (by omega) (by omega) h1 h2
theorem Qp (h1:a.cmp b<0) (h2:b.cmp c≤0):a.cmp c<0:=
 (XT (max a.size (max b.size c.size))).strict1 (by omega) (by omega) (by omega) h1 h2
theorem Qq (h1:a.cmp b≤0) (h2:b.cmp c<0):a.cmp c<0:=
 (XT (max a.size (max b.size c.size))).strict2 (by omega) (by omega) (by omega) h1 h2
theorem Wq (a:Tm):a.cmp a=0:=by have:=YE a a;omega
def ZjU (l:List Tm):Prop:=l.Pairwise fun a b=>a.cmp b<0
def InC (x:Tm) (l:List Tm):Prop:=∃ y,y∈l∧x.cmp y=0
theorem QO:¬ InC x []:=fun ⟨_,h,_⟩=>by cases h
theorem Ye:InC x (a::l)↔x.cmp a=0∨InC x l:=by
 constructor
 · rintro ⟨y, h, e⟩
   rcases List.mem_cons.1 h with rfl|h
   · exact .inl e
   · exact .inr ⟨y,h,e⟩
 · rintro (h | ⟨y, h, e⟩)
   · exact ⟨a,List.mem_cons_self,h⟩
   · exact ⟨y,List.mem_cons_of_mem _ h,e⟩
theorem Xi:InC x (l++m)↔InC x l∨InC x m:=by
 constructor
 · rintro ⟨y, h, e⟩
   rcases List.mem_append.1 h with h|h
   · exact .inl ⟨y,h,e⟩
   · exact .inr ⟨y,h,e⟩
 · rintro (⟨y, h, e⟩ | ⟨y, h, e⟩)
   · exact ⟨y,List.mem_append_left _ h,e⟩
   · exact ⟨y,List.mem_append_right _ h,e⟩
theorem Zmd (h:∀ y,y∈l↔y∈m):InC x l↔InC x m:=⟨fun ⟨y,a,e⟩=>⟨y,(h y).1 a,e⟩,fun ⟨y,a,e⟩=>⟨y,(h y).2 a,e⟩⟩
theorem Zla:∀ {X Y:List Tm},ZjU X→ZjU Y→(∀ x,InC x X↔InC x Y)→X.map Tm.cl=Y.map Tm.cl
 | [],[],_,_,_=>rfl
 | [],y::Y,_,_,h=>absurd ((h y).2 (Ye.2 (.inl (Wq y)))) QO
 |x::X,[],_,_,h=>absurd ((h x).1 (Ye.2 (.inl (Wq x)))) QO
 | x :: X, y :: Y, hX, hY, h => by
   obtain ⟨hx,hX⟩:=List.pairwise_cons.1 hX
   obtain ⟨hy,hY⟩:=List.pairwise_cons.1 hY
   have hxy:x.cmp y=0:=by
    rcases Ye.1 ((h x).1 (Ye.2 (.inl (Wq x)))) with e|⟨z,hz,e⟩
    · exact e
    · rcases Ye.1 ((h y).2 (Ye.2 (.inl (Wq y)))) with e2 | ⟨w, hw, e2⟩
      · have:=YE y x;omega
      · exfalso
        have a1:=hy z hz
        have a2:=hx w hw
        have a3:y.cmp x<0:=Qp a1 (by have:=YE x z;omega)
        have a4:x.cmp y<0:=Qp a2 (by have:=YE y w;omega)
        have:=YE x y
        omega
   have hyx:y.cmp x=0:=by have:=YE x y;omega
   rw [List.map_cons,List.map_cons,YI.1 hxy]
   congr 1
   refine Zla hX hY fun t=>⟨fun ⟨z,hz,e⟩=>?_,fun ⟨z,hz,e⟩=>?_⟩
   · rcases Ye.1 ((h t).1 (Ye.2 (.inr ⟨z, hz, e⟩))) with e2 | e2
     · exfalso
       have a1:=hx z hz
       have a2:t.cmp x≤0:=Zib (b:=y) (by omega) (by omega)
       have a3:t.cmp z<0:=Qq a2 a1
       omega
     · exact e2
   · rcases Ye.1 ((h t).2 (Ye.2 (.inr ⟨z, hz, e⟩))) with e2 | e2
     · exfalso
       have a1:=hy z hz
       have a2:t.cmp y≤0:=Zib (b:=x) (by omega) (by omega)
       have a3:t.cmp z<0:=Qq a2 a1
       omega
     · exact e2
def Zho (t:Tm):List Tm→List Tm
 | []=>[t]
 |x::r=>if t.cmp x≤0 then (if t.cmp x<0 then t::x::r else x::r) else x::Zho t r
theorem U4 (t:Tm):∀ (l o:List Tm),l.foldl (ZA t) (o,true)=(o++l,true)
 | [],o=>by simp
 | x :: r, o => by
   rw [List.foldl_cons,show ZA t (o,true) x=(o++ [x],true) from if_neg (by simp),U4 t r,List.append_assoc]
   rfl
def ZqH (t:Tm) (s:List Tm×Bool):List Tm:=match s with
 |(o,true)=>o
 |(o,false)=>o++ [t]
theorem Zau (t:Tm):∀ (l o:List Tm),ZqH t (l.foldl (ZA t) (o,false))=o++Zho t l
 | [],o=>rfl
 | x :: r, o => by
   rw [List.foldl_cons]
   by_cases h:t.cmp x≤0
   · rw [show ZA t (o, false) x = ((o ++ if t.cmp x < 0 then [t] else []) ++ [x], true) from if_pos ⟨rfl, h⟩, U4]
     simp only [ZqH,Zho,if_pos h]
     split<;>simp
   · rw [show ZA t (o, false) x = (o ++ [x], false) from if_neg (by simp; omega), Zau t r]
     simp only [Zho,if_neg h]
     simp
theorem Zjq (l:List Tm) (t:Tm):V4 l t=Zho t l:=(Zau t l []).trans (by simp)
theorem ZdP (t x:Tm):∀ l:List Tm,InC x (Zho t l)↔InC x l∨x.cmp t=0
 | []=>by simp only [Zho,Ye];exact or_comm
 | a :: r => by
   simp only [Zho]
   by_cases h:t.cmp a≤0
   · rw [if_pos h]
     by_cases h2:t.cmp a<0
     · rw [if_pos h2,Ye];exact or_comm
     · rw [if_neg h2]
       refine ⟨.inl,fun h3=>?_⟩
       rcases h3 with h3|h3
       · exact h3
       · have e : t.cmp a = 0 := by omega
         exact Ye.2 (.inl (YI.2 ((YI.1 h3).trans (YI.1 e))))
   · rw [if_neg h,Ye,Ye,ZdP t x r,or_assoc]
theorem ZfD (t:Tm):∀ {l:List Tm},ZjU l→ZjU (Zho t l)
 | [],_=>List.pairwise_cons.2 ⟨fun _ h=>(by cases h),.nil⟩
 | a :: r, h => by
   obtain ⟨h1,h2⟩:=List.pairwise_cons.1 h
   simp only [Zho]
   by_cases c:t.cmp a≤0
   · rw [if_pos c]
     by_cases c2:t.cmp a<0
     · rw [if_pos c2]
       refine List.pairwise_cons.2 ⟨fun y hy=>?_,h⟩
       rcases List.mem_cons.1 hy with rfl|hy
       · exact c2
       · exact Qq c (h1 y hy)
     · rw [if_neg c2];exact h
   · rw [if_neg c]
     refine List.pairwise_cons.2 ⟨fun y hy=>?_,ZfD t h2⟩
     have hy2:=(ZdP t y r).1 ⟨y,hy,Wq y⟩
     rcases hy2 with ⟨z,hz,e⟩|e
     · exact Qp (h1 z hz) (by have:=YE y z;omega)
     · have q : a.cmp t < 0 := by have := YE t a; omega
       exact Qp q (by have:=YE y t;omega)
theorem Q6:∀ (l o:List Tm),ZjU o→ZjU (l.foldl V4 o)∧∀ x,InC x (l.foldl V4 o)↔InC x o∨InC x l
 | [],o,h=>⟨h,fun x=>⟨.inl,fun h=>h.elim id fun h=>absurd h QO⟩⟩
 | a :: r, o, h => by
   have e:V4 o a=Zho a o:=Zjq o a
   obtain ⟨h1,h2⟩:=Q6 r (V4 o a) (by rw [e];exact ZfD a h)
   refine ⟨h1,fun x=>?_⟩
   rw [List.foldl_cons,h2,e,ZdP,Ye,or_assoc]
theorem ZfL (l:List Tm):ZjU (Qx l)∧∀ x,InC x (Qx l)↔InC x l:=by
 obtain ⟨h1,h2⟩:=Q6 l [] List.Pairwise.nil
 exact ⟨h1,fun x=>(h2 x).trans ⟨fun h=>h.elim (fun h=>absurd h QO) id,.inr⟩⟩
theorem Zjk (hne:l≠ []) (h:∀ t,t∈l→t.size≤N):(YV l).Pairwise fun a b=>a.cmp b≤0:=by
 have hs:=(VX hne h).2
 have hz:=V8 hne h
 rw [List.pairwise_iff_getElem]
 intro i j hi hj hij
 have li:i<(Yw l).size:=by simpa [YV] using hi
 have lj:j<(Yw l).size:=by simpa [YV] using hj
 have:=hs i j (Nat.zero_le _) hij (by omega)
 rw [Zbx] at this
 simp only [QL] at this
 rw [getElem!_pos (Yw l) i li,getElem!_pos (Yw l) j lj] at this
 simp only [YV,List.getElem_map,Array.getElem_toList]
 have q:=YE (gtT l (Yw l)[i]) (gtT l (Yw l)[j])
 omega
def kpF (L:List Tm):Nat→List Tm
 |0=>[]
 | n + 1 => kpF L n ++ (match L[n]?, L[n - 1]? with
   | some x,some y=>if n=0∨x.cmp y≠0 then [x] else []
   | _,_=>[])
theorem Zlb {r:List Tm}:kpF (a::r) 1= [a]:=by simp [kpF]
theorem Zd8 {L:List Tm} {n:Nat} {y:Tm} (h0:0<n) (hx:L[n]? = some x) (hy:L[n-1]? = some y):kpF L (n+1)=kpF L n++if x.cmp y=0 then [] else [x]:=by
 simp only [kpF,hx,hy]
 by_cases h:x.cmp y=0
 · rw [if_neg (by omega),if_pos h]
 · rw [if_pos (.inr h),if_neg h]
theorem Zfi (L:List Tm):∀ n,(kpF L n).length≤n
 |0=>Nat.le_refl _
 | n + 1 => by
   have:=Zfi L n
   simp only [kpF,List.length_append]
   split
   · split<;>simp<;>omega
   · simp;omega
theorem Zkx {L:List Tm} (hne:L≠ []):∀ n,0<n→kpF L n≠ []
 |0,h=>absurd h (Nat.lt_irrefl _)
 | 1, _ => by cases L with
   | nil=>exact absurd rfl hne
   | cons a r=>rw [Zlb];simp
 | n + 2, _ => by
   have:=Zkx hne (n+1) (Nat.succ_pos n)
   rw [kpF]
   intro e
   exact this (List.append_eq_nil_iff.1 e).1
theorem Zgn {L:List Tm} (hs:L.Pairwise fun a b=>a.cmp b≤0):∀ n,n≤L.length→ZjU (kpF L n)∧(∀ x,InC x (kpF L n)↔InC x (L.take n))∧∀ x,x∈kpF L n→x∈L.take n
 |0,_=>⟨List.Pairwise.nil,fun x=>by simp [kpF],fun x h=>by simp [kpF] at h⟩
 | n + 1, hn => by
   obtain ⟨h1,h2,h3⟩:=Zgn hs n (by omega)
   obtain ⟨x,hx⟩:∃ x,L[n]? = some x:=⟨L[n],by simp⟩
   have htk:L.take (n+1)=L.take n++ [x]:=by rw [List.take_add_one,hx];rfl
   by_cases h0:n=0
   · subst h0
     have e:kpF L 1= [x]:=by simp [kpF,hx]
     rw [e,htk]
     refine ⟨List.pairwise_cons.2 ⟨fun _ h=>(by cases h),.nil⟩,fun y=>by simp,fun y h=>by simpa using h⟩
   obtain ⟨y,hy⟩:∃ y,L[n-1]? = some y:=⟨L[n-1]'(by omega),by simp⟩
   rw [Zd8 (by omega) hx hy,htk]
   have hpw:=List.pairwise_iff_getElem.1 hs
   have hyx:y.cmp x≤0:=by
    have:=hpw (n-1) n (by omega) (by omega) (by omega)
    rw [List.getElem?_eq_getElem (by omega)] at hx hy
    simp only [Option.some.injEq] at hx hy
    rwa [hx,hy] at this
   have hle:∀ z,z∈L.take n→z.cmp y≤0:=fun z hz=>by
    obtain ⟨i,hi,rfl⟩:=List.mem_iff_getElem.1 hz
    rw [List.length_take] at hi
    rw [List.getElem_take]
    by_cases e:i=n-1
    · subst e
      rw [List.getElem?_eq_getElem (by omega)] at hy
      simp only [Option.some.injEq] at hy
      rw [hy]
      exact Int.le_of_eq (Wq y)
    · have := hpw i (n - 1) (by omega) (by omega) (by omega)
      rw [List.getElem?_eq_getElem (by omega)] at hy
      simp only [Option.some.injEq] at hy
      rwa [hy] at this
   by_cases c:x.cmp y=0
   · rw [if_pos c, List.append_nil]
     refine ⟨h1,fun z=>?_,fun z hz=>List.mem_append_left _ (h3 z hz)⟩
     rw [h2,Xi]
     refine ⟨.inl,fun h=>h.elim id fun h=>?_⟩
     rcases Ye.1 h with h|h
     · refine ⟨y, ?_, YI.2 ((YI.1 h).trans (YI.1 c))⟩
       rw [List.mem_iff_getElem?]
       exact ⟨n-1,by rw [List.getElem?_take_of_lt (by omega)];exact hy⟩
     · exact absurd h QO
   · rw [if_neg c]
     have hlt:y.cmp x<0:=by have:=YE x y;omega
     refine ⟨List.pairwise_append.2 ⟨h1,List.pairwise_cons.2 ⟨fun _ h=>(by cases h),.nil⟩,fun a ha b hb=>?_⟩,fun z=>by rw [Xi,Xi,h2],fun z hz=>?_⟩
     · rw [List.mem_singleton.1 hb]
       exact Qq (hle a (h3 a ha)) hlt
     · rcases List.mem_append.1 hz with h | h
       · exact List.mem_append_left _ (h3 z h)
       · exact List.mem_append_right _ h
def WN (l:List Tm):List Tm:=kpF (YV l) l.length
theorem Wl (hne:l≠ []) (h:∀ t,t∈l→t.size≤N):ZjU (WN l)∧(∀ x,InC x (WN l)↔InC x l)∧∀ x,x∈WN l→x∈l:=by
 have hp:=Vo hne h
 obtain ⟨h1,h2,h3⟩:=Zgn (Zjk hne h) l.length (by rw [hp.length_eq];exact Nat.le_refl _)
 have htk:(YV l).take l.length=YV l:=by rw [← hp.length_eq,List.take_length]
 rw [htk] at h2 h3
 exact ⟨h1,fun x=>(h2 x).trans (Zmd fun y=>hp.mem_iff),fun x hx=>hp.mem_iff.1 (h3 x hx)⟩
theorem Zjw (hne:l≠ []) (h:∀ t,t∈l→t.size≤N) (hm:∀ x,InC x l↔InC x m):(WN l).map Tm.cl=(Qx m).map Tm.cl:=by
 obtain ⟨a1,a2, -⟩:=Wl hne h
 obtain ⟨b1,b2⟩:=ZfL m
 exact Zla a1 b1 fun x=>by rw [a2,b2,hm]
section
variable {E:Env} {P:Program} {own:Tmp→Bool} {n:Nat} {K:TM→Heap→Prop} {tm:TM}
theorem dCt
  (hw:Zg ops.toList tm ⟨some d,.call {callee:= .value f,args:=args,argTypes:=ats},ty,pos,aft,grd⟩=some true) (hn:Nat.blt d n=true) (hf:Zi E tm f= .fn k caps)
  (ha:args.toList.map (Zi E tm)++caps=al) (hc:YN E own ⟨some d,.call {callee:= .value f,args:=args,argTypes:=ats},ty,pos,aft,grd⟩= .tk) (h:CallOk E P k al ⟨bx,bx.length,lv,nt⟩ p ⟨bx,bx.length,lv',nt'⟩)
  (hr:DrwQ E P own n ops n0 (i+1) r K (ZM tm (some d) p) ⟨bx,ro,lv',nt'⟩):DrwQ E P own n ops n0 i (⟨some d,.call {callee:= .value f,args:=args,argTypes:=ats},ty,pos,aft,grd⟩::r) K tm ⟨bx,ro,lv,nt⟩:=by
 have e:XB ⟨bx,ro,lv,nt⟩ ⟨bx,bx.length,lv',nt'⟩=⟨bx,ro,lv',nt'⟩:=by simp [XB]
 refine .stepN (p:=p) (H1:=⟨bx,ro,lv',nt'⟩) (by simp only [Xq,hn]) (.inr (.inr ⟨hc,fun j b hj=>hj⟩)) (fun ho'=>?_) hr
 have hci:=(Xw (E:=E) (own:=own) ho').trans hc
 refine ⟨by rw [hci];simp,.inr (.inl ⟨by rw [hci];exact ⟨by simp,by simp,by simp⟩,?_⟩)⟩
 have:=Hp.tk (E:=E) (P:=P) (own:=own) (ops:=ops) (n0:=n0) (cls:=YT E own ops) (tgt:=fun _=>n0) (msk:=fun _=>[]) (i:=i) (o:=⟨some d,.call {callee:= .value f,args:=args,argTypes:=ats},ty,pos,aft,grd⟩) (tm:=tm) ⟨bx,ro,lv,nt⟩ p ⟨bx,bx.length,lv',nt'⟩ hw hci
  (.call _ _ _ _ _ _ _ rfl hf (by rw [ha];exact h)) (Nat.le_refl _)
 rw [e] at this
 exact this
theorem dCu {ext : List Box}
  (hw:Zg ops.toList tm ⟨some d,.call {callee:= .value f,args:=args,argTypes:=ats},ty,pos,aft,grd⟩=some true) (hn:Nat.blt d n=true) (hf:Zi E tm f= .fn k caps)
  (ha:args.toList.map (Zi E tm)++caps=al) (hc:YN E own ⟨some d,.call {callee:= .value f,args:=args,argTypes:=ats},ty,pos,aft,grd⟩= .tk) (h:CallOk E P k al ⟨bx,bx.length,lv,nt⟩ p ⟨bx++ext,bx.length,lv',nt'⟩)
  (hr:DrwQ E P own n ops n0 (i+1) r K (ZM tm (some d) p) ⟨bx++ext,ro,lv',nt'⟩):DrwQ E P own n ops n0 i (⟨some d,.call {callee:= .value f,args:=args,argTypes:=ats},ty,pos,aft,grd⟩::r) K tm ⟨bx,ro,lv,nt⟩:=by
 have e:XB ⟨bx,ro,lv,nt⟩ ⟨bx++ext,bx.length,lv',nt'⟩=⟨bx++ext,ro,lv',nt'⟩:=by simp [XB]
 refine .stepN (p:=p) (H1:=⟨bx++ext,ro,lv',nt'⟩) (by simp only [Xq,hn]) (.inr (.inr ⟨hc,fun j b hj=>by rw [List.getElem?_append_left (Zv hj)];exact hj⟩)) (fun ho'=>?_) hr
 have hci:=(Xw (E:=E) (own:=own) ho').trans hc
 refine ⟨by rw [hci];simp,.inr (.inl ⟨by rw [hci];exact ⟨by simp,by simp,by simp⟩,?_⟩)⟩
 have:=Hp.tk (E:=E) (P:=P) (own:=own) (ops:=ops) (n0:=n0) (cls:=YT E own ops) (tgt:=fun _=>n0) (msk:=fun _=>[]) (i:=i) (o:=⟨some d,.call {callee:= .value f,args:=args,argTypes:=ats},ty,pos,aft,grd⟩) (tm:=tm) ⟨bx,ro,lv,nt⟩ p ⟨bx++ext,bx.length,lv',nt'⟩ hw hci
  (.call _ _ _ _ _ _ _ rfl hf (by rw [ha];exact h)) (by simp)
 rw [e] at this
 exact this
end
section
variable {E:Env} {P:Program}
def Gh.lay (g' g:Gh):Gh:={g' with σ:=g.σ,κ:=g.κ}
theorem CallOk.over {f:FuncId} {args:List PV} {r:PV} (h:CallOk E P f args ⟨[],0,lv,nt⟩ r ⟨[],0,lv',nt'⟩) (hu:ZN 0 args=true) (bx:List Box) (ro:Nat):CallOk E P f args ⟨bx,ro,lv,nt⟩ r ⟨bx,ro,lv',nt'⟩:=by
 intro g w vals hi hg hv
 have hi0:Inv g ⟨bx,0,lv,nt⟩ w:=⟨hi.st,hi.bx,hi.mp,hi.sp,hi.inj,hi.sd,hi.td,hi.tk,hi.tinj,hi.nd,hi.lt,hi.sz,Nat.zero_le _,hi.rm⟩
 have hic:=ZbF (n:=0) hi0 (Nat.zero_le _) (Nat.le_refl _) rfl
 simp only [List.take_zero] at hic
 have hvc:VL (g.cutσ 0) args vals.toList:=⟨hv.1,fun i h1 h2=>(hv.2 i h1 h2).cut (Y2 hu i h1)⟩
 refine UponCall.mono (fun v w' ⟨g',hp,hi',k⟩=>?_) (h (g.cutσ 0) w vals hic hg hvc)
 have hsd:∀ i,g'.σ i=none:=fun i=>hi'.sd i (Nat.zero_le _)
 have dead:∀ {ro nt:Nat} {lv:List Nat} {i:Nat},¬ (⟨[],ro,lv,nt⟩:Heap).liveAt i:=fun h=>by
  obtain ⟨b,hb,_⟩:=h
  simp at hb
 have le1:g'.Le (g'.lay g):=⟨fun _ _ _ h=>h,fun i b h=>(by rw [hsd i] at h;cases h),fun _ _ h=>h,fun i b h=>(by rw [hsd i] at h;cases h),rfl⟩
 have le2:g.Le (g'.lay g):=⟨fun b o v h=>k.le.S b o v h,fun i b h=>h,fun t x h=>k.le.τ t x h,fun i b _=>rfl,k.le.mono⟩
 have shutE:∀ j b,(⟨bx,ro,lv,nt⟩:Heap).liveAt j→g.σ j=some b→Shut (g.cutσ 0) ⟨[],0,lv,nt⟩ b:=fun j b hlj hs=>
  ⟨fun id _ hlid he=>(dead hlid).elim,fun t lo hi2 ht he=>(hi.tk t b lo hi2 ht he).2.2 j hlj hs⟩
 have heapE:∀ j b,(⟨bx,ro,lv,nt⟩:Heap).liveAt j→g.σ j=some b→w'.heap[b]? = w.heap[b]? ∧∀ o,g'.S b o=g.S b o:=fun j b hlj hs=>
  ⟨k.heap b (hi.sz j b hs) (shutE j b hlj hs),k.store b (hi.sz j b hs) (shutE j b hlj hs)⟩
 refine ⟨g'.lay g,hp.mono le1,⟨hi'.st,fun id es el h=>?_,fun id es h=>?_,fun id T cs h=>?_,hi.inj,hi.sd,hi'.td,fun t b lo hi2 ht hτ=>?_,hi'.tinj,hi'.nd,hi'.lt,fun id b h=>Nat.lt_of_lt_of_le (hi.sz id b h) k.size,hi.ro,fun id b c T m h1 h2 h3=>?_⟩,
  ⟨le2,fun b hb hs=>k.heap b hb ⟨fun _ _ hl=>(dead hl).elim,hs.2⟩,fun b hb hs=>k.store b hb ⟨fun _ _ hl=>(dead hl).elim,hs.2⟩,k.size,fun id b h h'=>?_,fun t b lo hi2 h h'=>k.tnew t b lo hi2 h h',rfl,Nat.le_refl _,fun id _=>rfl,k.nt,k.lv,fun id b _ h'=>h',fun id _ h'=>h',k.so⟩⟩
 · obtain ⟨b, c, T, h1, h2, h3, h4, h5, h6⟩ := hi.bx id es el h
   obtain ⟨hh,hS⟩:=heapE id b ⟨_,h,trivial⟩ h1
   exact ⟨b,c,T,h1,by rw [hh];exact h2,h3,h4,fun i hi0 j hj=>let ⟨v,a,x⟩:=h5 i hi0 j hj;⟨v,a,x.mono le2⟩,fun o=>(hS o).trans (h6 o)⟩
 · obtain ⟨b, c, T, h1, h2, h3, h4, h5⟩ := hi.mp id es h
   obtain ⟨hh,hS⟩:=heapE id b ⟨_,h,trivial⟩ h1
   exact ⟨b,c,T,h1,by rw [hh];exact h2,h3,fun i hi0=>let ⟨a,z,x,y⟩:=h4 i hi0;⟨a,z,x.mono le2,y.mono le2⟩,fun o=>(hS o).trans (h5 o)⟩
 · obtain ⟨b, c, h1, h2, h3, h4, h5⟩ := hi.sp id T cs h
   obtain ⟨hh,hS⟩:=heapE id b ⟨_,h,trivial⟩ h1
   exact ⟨b,c,h1,by rw [hh];exact h2,h3,fun j hj=>let ⟨v,a,x⟩:=h4 j hj;⟨v,a,x.mono le2⟩,fun o=>(hS o).trans (h5 o)⟩
 · obtain ⟨h3, h5, -⟩ := hi'.tk t b lo hi2 ht hτ
   refine ⟨h3,h5,fun id hlid he=>?_⟩
   have he:g.σ id=some b:=he
   cases e:(g.cutσ 0).τ t with
   | some x =>
     have:=k.le.τ _ _ e
     have hτ':g'.τ t=some (b,lo,hi2):=hτ
     rw [hτ'] at this
     cases this
     rcases k.lv t ht with h7|h7
     · exact (hi.tk t b lo hi2 h7 e).2.2 id hlid he
     · rw [show (g.cutσ 0).τ t=g.τ t from rfl,hi.td t h7] at e;cases e
   | none =>
     rcases k.tnew t b lo hi2 e hτ with h7|⟨t',lo',hi3,h8,h9⟩
     · have:=hi.sz id b he;omega
     · exact (hi.tk t' b lo' hi3 h8 h9).2.2 id hlid he
 · have h2 : g.σ id = some b := h2
   rw [(heapE id b h1 h2).1] at h3
   exact hi.rm id b c T m h1 h2 h3
 · have h' : g.σ id = some b := h'
   rw [h] at h'
   cases h'
theorem CodeTo.switch {own own':Tmp→Bool} {n id:Nat} {c:Code} {tm tm':TM} {H H':Heap} {ex:Ex} (h:CodeTo E P own' n c tm H ex tm' H'):c= .region id ops true→CodeTo E P own n c tm H ex tm' H':=by
 induction h with
 |draw id ops tm H tm' H' h=>intro _;exact .draw id ops tm H tm' H' h
 |drop c tm H ex tm' H' tm2 _ hs hu ih=>intro hc;exact .drop c tm H ex tm' H' tm2 (ih hc) hs hu
 |_=>intro hc;cases hc
theorem Wp.switch {own:Tmp→Bool} (own':Tmp→Bool) {n id:Nat} {ops:Array Oper} {Q:Ex→TM→Heap→Prop} {tm:TM} {H:Heap} (h:Wp E P own' n (.region id ops true) Q tm H):Wp E P own n (.region id ops true) Q tm H:=by
 obtain ⟨ex,tm',H',h1,h2⟩:=h.out
 exact ⟨ex,tm',H',h1.switch rfl,h2⟩
end
open Go.RowKit
section
variable {E:Env} {P:Program} {w:World}
theorem ZgR {f : FuncId} {fn : Func} {c : Code} (hf : FnOk P f fn c) (hG : GOk E (wG w)) {args : List PV} {r : PV} (h : CallOk E P f args hNil r hNil) {vals : Array Value} (hv : Xh (wS w) args vals.toList) :
  Calls P f vals w fun e w'=>∃ v,e= .returned v∧(∃ g',V g' r v)∧GrownB w w'∧∀ k,k<w.heap.size→w'.heap[k]? = w.heap[k]? :=by
 have hu:=h (wG w) w vals (ZkI w) hG ⟨hv.1,fun i h1 h2=> .pure _ _ (hv.2 i h1 h2)⟩
 rw [ZE hf] at hu
 exact Calls.mono hu fun e w' ⟨v,e1,g',hp,_,k⟩=>⟨v,e1,⟨g',hp⟩,ZbB k,fun i hi=>k.heap i hi (Vv _ i)⟩
end
section
variable {P:Program} {H:Type} {enc:TypeId×Value→H} {w:World} {base:Nat} {spare:Nat→Bool} {held:Bool}
theorem Zj0 {t e : TypeId} (ht : P.underlying t = some (.slice e)) (he : P.underlying e = some .string) (hs : P.cellsOf e = 1) (l : List (List UInt8)) (h0 : 0 < l.length) {fuel : Nat} {cs : List Value} {p : List MemPlace}
  (h:DataW.trod enc P w base spare held (fuel+1) t cs=some (.slice (l.map fun s=> .lit (.string s)) [],p)):Xh (wS w) [.sl .none 1 (l.map fun s=>[.str s])] cs:=by
 rcases DataW.trod_slice ht h with ⟨rfl,hx⟩|⟨a,len,cap,elems,rest,m,hm,rfl,hx,hb,hl,hcap,hlen,hel, -, -⟩
 · simp at hx
 · cases hm
   simp only [Prod.mk.injEq,DataW.slice.injEq] at hx
   obtain ⟨⟨hx, -⟩, -⟩:=hx
   have hle:l.length=elems.length:=by
    have:=congrArg List.length hx
    simpa using this
   have hcell:∀ i (hi:i<l.length),∃ s:ByteArray,w.cell? (a.add i)=some (.string s)∧s.data.toList=l[i]:=fun i hi=>by
    have hy:=hel i (by omega)
    have hz:elems[i]? = some (elems[i]'(by omega)):=List.getElem?_eq_getElem (by omega)
    rw [hz,Option.bind_eq_some_iff] at hy
    obtain ⟨cs',hc1,hc2⟩:=hy
    rw [hs] at hc1
    cases fuel with
    | zero=>simp [DataW.trod] at hc2
    | succ n =>
      obtain ⟨s,rfl,he2, -⟩:=DataW.trod_string he hc2
      have:=(World.cells?_some hc1).2.2 0 (by omega)
      refine ⟨s,?_,?_⟩
      · simpa [Addr.add] using this
      · have e1 : (l.map fun s => DataW.lit (H := H) (.string s))[i]? = some (.lit (.string l[i])) := by simp [hi]
        rw [hx,List.getElem?_map,hz] at e1
        simp only [Option.map_some,he2,Option.some.injEq,DataW.lit.injEq,Lit.string.injEq] at e1
        exact e1
   have hspot:a=⟨a.block,a.off,none⟩:=by
    obtain ⟨s,h1, -⟩:=hcell 0 h0
    simp only [Addr.add,if_true] at h1
    obtain ⟨ab,ao,asp⟩:=a
    cases asp with
    | none=>rfl
    | some z =>
      simp only [World.cell?] at h1
      split at h1
      · simp at h1
      · cases h1
   have hll:(l.map fun s=>[PV.str s]).length=len:=by simp;omega
   refine ⟨rfl,fun k hi hj=>?_⟩
   obtain rfl:k=0:=by simp at hi;omega
   simp only [List.getElem_cons_zero]
   have key:V0 (wS w) (.sl .none 1 (l.map fun s=>[.str s])) (.slice (some a) (l.map fun s=>[PV.str s]).length cap):=by
    refine .sl .none 1 _ a a.block a.off cap (fun i _=>(w.cell? (a.add i)).getD undef) (fun _=>hspot) (.inl rfl) (by omega) (fun i hi=>by simp) (fun i j hi hj=>?_) (fun i hi j hj=>?_)
    · obtain rfl : j = 0 := by omega
      obtain ⟨s,h1, -⟩:=hcell i (by simpa using hi)
      simp only [wS]
      have e:a.add i=⟨a.block,a.off+i*1+0,none⟩:=by
       have e0:∀ A:Addr,A=⟨a.block,a.off,none⟩→A.add i=⟨a.block,a.off+i*1+0,none⟩:=fun A hA=>by rw [hA,ZR];simp
       exact e0 a hspot
      rw [← e,h1]
      rfl
    · obtain rfl : j = 0 := by simp at hj; omega
      obtain ⟨s,h1,h2⟩:=hcell i (by simpa using hi)
      rw [h1]
      simp only [Option.getD_some,List.getElem_map,List.getElem_cons_zero]
      exact .str _ _ h2
   rwa [hll] at key
end
section
variable {T:TypeId→Option TI}
theorem Zby {l : TypeId} {li : TI} (hs : T s = some si) (ks : si.tk = .string) (zs : si.size = 1) (hl : T l = some li) (kl : li.tk = .slice s) (h : Sh T l cs) :
  ∃ b L,cs= [slV b 1 (Zp L)]∧L.length≤maxLen∧∀ x,x∈L→x.length≤maxLen:=by
 cases h with
 |bool h' hk'=>rw [hl] at h';cases h';rw [kl] at hk';cases hk'
 |int h' hk'=>rw [hl] at h';cases h';rw [kl] at hk';cases hk'
 |str h' hk'=>rw [hl] at h';cases h';rw [kl] at hk';cases hk'
 |struct h' hk'=>rw [hl] at h';cases h';rw [kl] at hk';cases hk'
 |nils h' hk'=>exact ⟨true,[],by rw [show Zp []= [] from rfl,Zh],Nat.zero_le _,fun _ h=>absurd h (by simp)⟩
 | sl h' hk' he hlen hel =>
   rw [hl] at h';cases h'
   rw [kl] at hk';cases hk'
   rw [hs] at he;cases he
   obtain ⟨L,hL,hok⟩:∃ L:List ZcM,_=Zp L∧∀ x,x∈L→x.length≤maxLen:=by
    have:∀ (el:List (List PV)),(∀ c,c∈el→∃ x:ZcM,c= [.str x]∧x.length≤maxLen)→∃ L:List ZcM,el=Zp L∧∀ x,x∈L→x.length≤maxLen:=by
     intro el
     induction el with
     | nil=>exact fun _=>⟨[],rfl,fun _ h=>absurd h (by simp)⟩
     | cons c r ih =>
       intro h
       obtain ⟨x,rfl,hx⟩:=h c List.mem_cons_self
       obtain ⟨L,rfl,hL⟩:=ih fun c hc=>h c (List.mem_cons_of_mem _ hc)
       exact ⟨x::L,rfl,fun y hy=>by
        rcases List.mem_cons.1 hy with rfl|hy
        · exact hx
        · exact hL y hy⟩
    exact this _ fun c hc=>ZhI (hel c hc) hs ks
   refine ⟨false,L,by rw [Z0, ← hL,zs],?_,hok⟩
   rw [hL,Zw] at hlen
   exact hlen
theorem ZmK {i sl t tl m ml : TypeId} {ii sli ti tli mi mli : TI} (hi : T i = some ii) (ki : ii.tk = .int .i64) (zi : ii.size = 1) (hs : T s = some si) (ks : si.tk = .string) (zs : si.size = 1) (hsl : T sl = some sli) (ksl : sli.tk = .slice s) (zsl : sli.size = 1)
  (ht:T t=some ti) (kt:ti.tk= .struct [(0,i),(1,s),(2,i),(3,tl)]) (zt:ti.size=4) (htl:T tl=some tli) (ktl:tli.tk= .slice t) (ztl:tli.size=1)
  (hm:T m=some mi) (km:mi.tk= .struct [(0,i),(1,i),(2,i),(3,sl),(4,i),(5,tl)]) (zm:mi.size=6) (hml:T ml=some mli) (kml:mli.tk= .slice m) (h:Sh T ml cs) :
  ∃ b L,cs= [slV b 6 (moC L)]∧∀ x,x∈L→x.Ok:=by
 have one:∀ c,Sh T m c→∃ x:Mo,c=x.cells∧x.Ok:=fun c h=>by
  cases h with
  | bool h' hk'=>rw [hm] at h';cases h';rw [km] at hk';cases hk'
  | int h' hk'=>rw [hm] at h';cases h';rw [km] at hk';cases hk'
  | str h' hk'=>rw [hm] at h';cases h';rw [km] at hk';cases hk'
  | nils h' hk'=>rw [hm] at h';cases h';rw [km] at hk';cases hk'
  | sl h' hk'=>rw [hm] at h';cases h';rw [km] at hk';cases hk'
  | struct h' hk' hlen hf =>
    rw [hm] at h';cases h'
    rw [km] at hk';cases hk'
    rw [zm] at hlen
    obtain ⟨a,b,c,d,e,f,rfl⟩:=ZqS hlen
    have q0:=hf 0 i ii (by simp) hi
    have q1:=hf 1 i ii (by simp) hi
    have q2:=hf 2 i ii (by simp) hi
    have q3:=hf 3 sl sli (by simp) hsl
    have q4:=hf 4 i ii (by simp) hi
    have q5:=hf 5 tl tli (by simp) htl
    rw [zi] at q0 q1 q2 q4
    rw [zsl] at q3
    rw [ztl] at q5
    obtain ⟨n0,e0,w0⟩:=Zbj q0 hi ki
    obtain ⟨n1,e1,w1⟩:=Zbj q1 hi ki
    obtain ⟨n2,e2,w2⟩:=Zbj q2 hi ki
    obtain ⟨b3,l3,e3,w3,w3'⟩:=Zby hs ks zs hsl ksl q3
    obtain ⟨n4,e4,w4⟩:=Zbj q4 hi ki
    obtain ⟨b5,l5,e5,w5,w5'⟩:=(Zps hi ki zi hs ks zs htl ktl ztl ht kt zt q5).2 rfl
    simp only [List.drop_zero,List.drop_succ_cons,List.take_succ_cons,List.take_zero,List.cons.injEq,and_true] at e0 e1 e2 e3 e4 e5
    subst e0 e1 e2 e3 e4 e5
    exact ⟨⟨n0,n1,n2,b3,l3,n4,b5,l5⟩,rfl,⟨w0,w1,w2,w4,w3,w3',w5',w5⟩⟩
 cases h with
 |bool h' hk'=>rw [hml] at h';cases h';rw [kml] at hk';cases hk'
 |int h' hk'=>rw [hml] at h';cases h';rw [kml] at hk';cases hk'
 |str h' hk'=>rw [hml] at h';cases h';rw [kml] at hk';cases hk'
 |struct h' hk'=>rw [hml] at h';cases h';rw [kml] at hk';cases hk'
 |nils h' hk'=>exact ⟨true,[],by rw [show moC []= [] from rfl,Zh],fun _ h=>absurd h (by simp)⟩
 | sl h' hk' he hlen hel =>
   rw [hml] at h';cases h'
   rw [kml] at hk';cases hk'
   rw [hm] at he;cases he
   obtain ⟨L,hL,hok⟩:∃ L:List Mo,_=moC L∧∀ x,x∈L→x.Ok:=by
    have:∀ (el:List (List PV)),(∀ c,c∈el→∃ x:Mo,c=x.cells∧x.Ok)→∃ L:List Mo,el=moC L∧∀ x,x∈L→x.Ok:=by
     intro el
     induction el with
     | nil=>exact fun _=>⟨[],rfl,fun _ h=>absurd h (by simp)⟩
     | cons c r ih =>
       intro h
       obtain ⟨x,rfl,hx⟩:=h c List.mem_cons_self
       obtain ⟨L,rfl,hL⟩:=ih fun c hc=>h c (List.mem_cons_of_mem _ hc)
       exact ⟨x::L,rfl,fun y hy=>by
        rcases List.mem_cons.1 hy with rfl|hy
        · exact hx
        · exact hL y hy⟩
    exact this _ fun c hc=>one c (hel c hc)
   exact ⟨false,L,by rw [Z0, ← hL,zm],hok⟩
end
mutual
def wt:PV→Nat
 | .str s=>s.length+1
 | .sl _ _ el=>ZjX el+1
 |_=>1
def wtL:List PV→Nat
 | []=>0
 |c::r=>wt c+wtL r
def ZjX:List (List PV)→Nat
 | []=>0
 |c::r=>wtL c+ZjX r
end
theorem Za0:∀ a b:List PV,wtL (a++b)=wtL a+wtL b
 | [],b=>by simp [wtL]
 |c::a,b=>by simp only [List.cons_append,wtL,Za0 a b];omega
theorem ZmZ:∀ p:PV,1≤wt p
 | .str s=>by simp [wt]
 | .sl _ _ el=>by simp [wt]
 | .bool _| .int _ _| .nilp| .ptr _ _ _ _| .fptr _ _| .nils| .own _ _ _ _| .nilm| .map _| .nilf| .fn _ _| .agg _| .tup _| .undef=>by simp [wt]
theorem ZhB:∀ l:List PV,l.length≤wtL l
 | []=>by simp [wtL]
 |c::r=>by have:=ZhB r;have:=ZmZ c;simp only [wtL,List.length_cons];omega
theorem ZeB:∀ (l:List (List PV)),(∀ c,c∈l→0<c.length)→l.length≤ZjX l
 | [],_=>by simp [ZjX]
 | c :: r, h => by
   have:=ZeB r fun c hc=>h c (List.mem_cons_of_mem _ hc)
   have:=h c List.mem_cons_self
   have:=ZhB c
   simp only [ZjX,List.length_cons]
   omega
theorem ZeS:∀ {l:List (List PV)} {b:List Nat},l.length=b.length→(∀ i (hi:i<l.length) (hj:i<b.length),wtL l[i]≤b[i])→ZjX l≤b.sum
 | [],[],_,_=>by simp [ZjX]
 | c :: r, x :: b, hl, h => by
   have h0:=h 0 (by simp) (by simp)
   have:=ZeS (l:=r) (b:=b) (by simpa using hl) fun i hi hj=>by
    have:=h (i+1) (by simp;omega) (by simp;omega)
    simpa using this
   simp only [ZjX,List.sum_cons]
   simp only [List.getElem_cons_zero] at h0
   omega
 | [],_::_,hl,_=>by simp at hl
 |_::_,[],hl,_=>by simp at hl
structure BulkOk {H:Type} (B:DataW H→Nat):Prop where
 lit:∀ l,1≤B (.lit l)
 str:∀ s,s.length+1≤B (.lit (.string s))
 nil:1≤B .nil
 slice:∀ e s,(e.map B).sum+1≤B (.slice e s)
 agg:∀ ps,(ps.map B).sum≤B (.agg ps)
theorem Zac {T : TypeId → Option TI} {cl : List TypeId} {S : W0} {cs : List Value} {n : Nat} (hn : cs.length = n) : ∀ (fs : List (Nat × TypeId)) (bs : List Nat) (o : Nat), fs.length = bs.length → W6 T cl fs o n = true →
  (∀ q (hq:q<fs.length) (hb:q<bs.length) fi,fs[q].2∈cl→T fs[q].2=some fi→∃ pcs,Sh T fs[q].2 pcs∧Xh S pcs ((cs.drop fs[q].1).take fi.size)∧wtL pcs≤bs[q])→
  ∃ rest,rest.length+o=n∧Xh S rest (cs.drop o)∧wtL rest≤bs.sum∧∀ pre:List PV,pre.length=o→∀ o' ft fi,(o',ft)∈fs→T ft=some fi→Sh T ft (((pre++rest).drop o').take fi.size)
 | [], [], o, _, h, _ => by
   simp only [W6] at h
   have:=Nat.eq_of_beq_eq_true h
   subst this
   refine ⟨[],by simp,⟨by simp [hn],fun i hi=>absurd hi (by simp)⟩,by simp [wtL],fun _ _ _ _ _ h=>absurd h (by simp)⟩
 | (o1, ft) :: r, b :: bs, o, hl, h, hf => by
   simp only [W6,Bool.and_eq_true] at h
   obtain ⟨h1,h2,h3⟩:=h
   have:=Nat.eq_of_beq_eq_true h1
   subst this
   split at h3
   · rename_i fi hfi
     obtain ⟨pcs,hs,hc,hwt⟩:=hf 0 (by simp) (by simp) fi (Zb7 h2) hfi
     simp only [List.getElem_cons_zero] at hs hc hwt
     have hle:=Q8 h3
     obtain ⟨rest,r1,r2,rw_,r3⟩:=Zac hn r bs (o1+fi.size) (by simpa using hl) h3 fun q hq hb fi' hm hfi'=>by
      have:=hf (q+1) (by simp;omega) (by simp;omega) fi' (by simpa using hm) (by simpa using hfi')
      simpa using this
     have hl:pcs.length=fi.size:=by rw [← hc.1];simp;omega
     refine ⟨pcs++rest,by simp;omega,⟨by simp;omega,fun i hi hj=>?_⟩,by rw [Za0,List.sum_cons];omega,fun pre hp o' ft' fi' hm hfi'=>?_⟩
     · by_cases hlt : i < pcs.length
       · rw [List.getElem_append_left hlt]
         have:=hc.2 i hlt (by simp;omega)
         simpa using this
       · rw [List.getElem_append_right (by omega)]
         have:=r2.2 (i-pcs.length) (by simp at hi;omega) (by simp;simp at hi;omega)
         have e:o1+fi.size+(i-pcs.length)=o1+i:=by omega
         simpa only [List.getElem_drop,e] using this
     · rcases List.mem_cons.1 hm with e | hm
       · cases e
         rw [hfi] at hfi'
         cases hfi'
         rw [List.drop_append_of_le_length (by omega),List.drop_of_length_le (by omega),List.nil_append,List.take_append_of_le_length (by omega),List.take_of_length_le (by omega)]
         exact hs
       · have := r3 (pre ++ pcs) (by simp; omega) o' ft' fi' hm hfi'
         rwa [List.append_assoc] at this
   · cases h3
 | [],_::_,_,hl,_,_=>by simp at hl
 |_::_,[],_,hl,_,_=>by simp at hl
section
variable {E:Env} {P:Program} {H:Type} {enc:TypeId×Value→H} {w:World} {base:Nat} {spare:Nat→Bool} {held:Bool} {cl:List TypeId}
theorem Zcq (hE:TOk E P) {B:DataW H→Nat} (hB:BulkOk B) (hcl:∀ t,t∈cl→ZmF E.T cl t=true):∀ (n:Nat) (t:TypeId) (cs:List Value) (x:DataW H×List MemPlace),t∈cl→DataW.trod enc P w base spare held n t cs=some x→∃ pcs,Sh E.T t pcs∧Xh (wS w) pcs cs∧wtL pcs≤B x.1
 |0,t,cs,x,_,h=>by simp [DataW.trod] at h
 | n + 1, t, cs, x, ht, h => by
   have hk:=hcl t ht
   unfold ZmF at hk
   split at hk
   · rename_i ti hti
     obtain ⟨i,d,z,h1,h2,h3,rfl⟩:=hE.spec hti
     have hsz:P.cellsOf t=i.size:=by simp [Program.cellsOf,h1]
     simp only at hk
     split at hk
     · rename_i hd
       have hd:=Zcd hd
       subst hd
       obtain ⟨b,rfl,rfl⟩:=DataW.trod_bool h2 h
       exact ⟨[.bool b],.bool hti rfl,Zdd (.bool b),by have:=hB.lit (.bool b);simpa [wtL,wt] using this⟩
     · rename_i k hd
       have hd:=Zbf hd
       subst hd
       obtain ⟨m,rfl,rfl,hw⟩:=DataW.trod_int h2 h
       exact ⟨[.int k m],.int hti rfl hw,Zdd (.int k m),by have:=hB.lit (.int k m);simpa [wtL,wt] using this⟩
     · rename_i hd
       have hd:=YQ hd
       subst hd
       obtain ⟨s,rfl,rfl,hw⟩:=DataW.trod_string h2 h
       exact ⟨[.str s.data.toList],.str hti rfl (by simpa using hw),Zdd (.str _ s rfl),by have:=hB.str s.data.toList;simpa [wtL,wt] using this⟩
     · rename_i e hd
       have hd:=Z9 hd
       subst hd
       simp only [Bool.and_eq_true] at hk
       obtain ⟨_,he,hei⟩:=hk
       split at hei
       · rename_i ei hte
         obtain ⟨i',d',z',h1',h2',h3',rfl⟩:=hE.spec hte
         have hes:P.cellsOf e=i'.size:=by simp [Program.cellsOf,h1']
         have hpos:0<i'.size:=Nat.le_of_ble_eq_true hei
         rcases DataW.trod_slice h2 h with ⟨rfl,rfl⟩|⟨a,len,cap,elems,rest,m,hm,rfl,rfl,hb,hl,hcap,hlen,hel, -, -⟩
         · exact ⟨[.nils],.nils hti rfl,Zdd (.nils),by have:=hB.nil;simpa [wtL,wt] using this⟩
         · cases hm
           have each:∀ i,i<len→∃ p:List PV×List Value,Sh E.T e p.1∧Xh (wS w) p.1 p.2∧w.cells? base (a.add (i*i'.size)) i'.size=some p.2∧∃ hh:i<elems.length,wtL p.1≤B (elems[i]'hh).1:=fun i hi=>by
            have hx:=hel i hi
            have hy:elems[i]? = some (elems[i]'(by omega)):=List.getElem?_eq_getElem (by omega)
            rw [hy,Option.bind_eq_some_iff] at hx
            obtain ⟨cs',hc1,hc2⟩:=hx
            obtain ⟨pcs,q1,q2,q3⟩:=Zcq hE hB hcl n e cs' _ (Zb7 he) hc2
            exact ⟨(pcs,cs'),q1,q2,by rw [← hes];exact hc1,by omega,q3⟩
           obtain ⟨L,hL1,hL2⟩:=Zeb len each
           have hcell:∀ i (hi:i<L.length) j,j<i'.size→w.cell? ((a.add (i*i'.size)).add j)=(L[i]).2[j]? :=fun i hi j hj=>by
            have:=(World.cells?_some (hL2 i hi).2.2.1)
            exact this.2.2 j hj
           have hlen2:∀ i (hi:i<L.length),(L[i]).2.length=i'.size:=fun i hi=>(World.cells?_some (hL2 i hi).2.2.1).2.1
           have hspot:0<len→a=⟨a.block,a.off,none⟩:=fun hp=>by
            have h0:=hcell 0 (by omega) 0 hpos
            rw [List.getElem?_eq_getElem (by rw [hlen2 0 (by omega)];exact hpos)] at h0
            simp only [Nat.zero_mul,Addr.add,if_true] at h0
            obtain ⟨ab,ao,asp⟩:=a
            cases asp with
            | none=>rfl
            | some z =>
              simp only [World.cell?] at h0
              split at h0
              · simp at h0
              · cases h0
           have hw':∀ i (hi:i<L.length),(L[i]).1.length=i'.size:=fun i hi=>by rw [← (hL2 i hi).2.1.1];exact hlen2 i hi
           refine ⟨[.sl .none i'.size (L.map (·.1))],.sl hti rfl hte (by simp;omega) (fun c hc=>?_),⟨rfl,fun k hi hj=>?_⟩,?_⟩
           · obtain ⟨p, hp, rfl⟩ := List.mem_map.1 hc
             obtain ⟨q,hq,rfl⟩:=List.mem_iff_getElem.1 hp
             exact (hL2 q hq).1
           · obtain rfl : k = 0 := by simp at hi; omega
             have hLm:(L.map (·.1)).length=len:=by simp [hL1]
             simp only [List.getElem_cons_zero]
             have key:V0 (wS w) (.sl .none i'.size (L.map (·.1))) (.slice (some a) (L.map (·.1)).length cap):=by
              refine .sl .none i'.size (L.map (·.1)) a a.block a.off cap (fun x y=>((L[x]?.map (·.2)).getD []).getD y undef) (fun hp=>hspot (by omega)) (.inl rfl) (by omega) (fun x hx=>?_) (fun x y hx hy=>?_) (fun x hx y hy=>?_)
              · simpa using hw' x (by simpa using hx)
              · have hx' : x < L.length := by simpa using hx
                have hcl:=hcell x hx' y hy
                have ha:=hspot (by omega)
                have e0:∀ A:Addr,A=⟨a.block,a.off,none⟩→(A.add (x*i'.size)).add y=⟨a.block,a.off+x*i'.size+y,none⟩:=fun A hA=>by rw [hA,ZR,ZR]
                have e1:=e0 a ha
                rw [e1] at hcl
                simp only [wS]
                rw [hcl,List.getElem?_eq_getElem hx']
                have:y<(L[x]).2.length:=by rw [hlen2 x hx'];exact hy
                simp [this]
              · have hx' : x < L.length := by simpa using hx
                have e1:(L.map (·.1))[x]=(L[x]).1:=by simp
                have hy1:y<(L[x]).1.length:=by rw [← e1];exact hy
                have:=(hL2 x hx').2.1.2 y hy1 (by rw [(hL2 x hx').2.1.1];exact hy1)
                have hy2:y<(L[x]).2.length:=by rw [(hL2 x hx').2.1.1];exact hy1
                simpa [e1,List.getElem?_eq_getElem hx',hy2] using this
             rwa [hLm] at key
           · have h1 := hB.slice (elems.map (·.1)) (rest.map (·.1))
             have h2:ZjX (L.map (·.1))≤((elems.map (·.1)).map B).sum:=ZeS (by simp;omega) fun i hi hj=>by
              obtain ⟨hh,hq⟩:=(hL2 i (by simpa using hi)).2.2.2
              simpa using hq
             simp only [wtL,wt]
             omega
       · cases hei
     · rename_i fs hd
       obtain ⟨fs',hd,hfs⟩:=Ve hd
       subst hd
       obtain ⟨xs,m,hm,rfl,hlen,hxl,hf⟩:=DataW.trod_struct h2 h
       cases hm
       rw [hsz] at hlen
       obtain ⟨rest,r1,r2,rw_,r3⟩:=Zac (S:=wS w) hlen fs ((xs.map (·.1)).map B) 0 (by rw [hfs];simp [hxl]) hk fun q hq hb fi hft hfi=>by
        have hq2:q<fs'.toList.length:=by rw [hfs] at hq;simpa using hq
        obtain ⟨f,hqe⟩:∃ f,f=fs'.toList[q]:=⟨_,rfl⟩
        have efq:fs[q]=(f.offset,f.type):=by simp only [hfs,List.getElem_map,hqe]
        rw [efq] at hft hfi ⊢
        simp only at hft hfi ⊢
        obtain ⟨i',d',z',h1',h2',h3',rfl⟩:=hE.spec hfi
        have hx:=hf q f (by rw [hqe];simp only [Array.getElem_toList];exact Array.getElem?_eq_getElem (by simpa using hq2))
        have hq':q<xs.length:=by rw [hxl];simpa using hq2
        rw [List.getElem?_eq_getElem hq'] at hx
        have hs':P.cellsOf f.type=i'.size:=by simp [Program.cellsOf,h1']
        rw [hs'] at hx
        obtain ⟨pcs,z1,z2,z3⟩:=Zcq hE hB hcl n f.type _ _ hft hx
        exact ⟨pcs,z1,z2,by simpa using z3⟩
       refine ⟨rest,.struct (fs:=fs) hti (by rw [hfs];rfl) (by simpa using r1) (fun o ft fi hmem hfi=>?_),?_,?_⟩
       · have := r3 [] rfl o ft fi hmem hfi
         simpa using this
       · simpa using r2
       · have := hB.agg (xs.map (·.1))
         exact Nat.le_trans rw_ this
     · cases hk
   · cases hk
end
