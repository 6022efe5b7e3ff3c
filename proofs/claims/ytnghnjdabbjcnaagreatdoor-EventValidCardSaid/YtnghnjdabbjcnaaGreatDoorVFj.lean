/-
  Moments, strings and numbers, as they are read.
-/
import Derived.Test.YtnghnjdabbjcnaaGreatDoorVFi
import Derived.Lib.Split
import Derived.Lib.ItoaMem
import Derived.LaidByTextLater
namespace Go.Vm
variable {all:List Oper} {X Y p r:PV} {ty:TypeId} {pos:String} {grd:Option (Nat×Bool)} {v:Value} {l:List (Int×Bool)} {f:FuncId} {args cs:List PV} {H':Heap} {c:Code} {s sep:List UInt8} {fn:Func} {g':Gh} {w':World} {si:TI}
section
variable {E:Env} {P:Program} {own:Tmp→Bool} {n:Nat} {K:TM→Heap→Prop} {tm:TM} {H:Heap}
theorem qLk {r : List Oper} {d : Nat} {aft : Array Edge} {t : TypeId} {x i : Operand} {ok : Bool} {p' : PV} (hw : Zf all tm ⟨some d, .lookup t x i ok, ty, pos, aft, grd⟩ = some true) (hn : Nat.blt d n = true) (hx : Zh E tm x = X) (hy : Zh E tm i = Y) (h : Wg E t X Y ok H = some p) (hv : IsV p p')
  (hr:RegQ E P own n all r K (ZN tm (some d) p') H):RegQ E P own n all (⟨some d,.lookup t x i ok,ty,pos,aft,grd⟩::r) K tm H:= .run hw rfl hn (p:=p) (by simp only[aOp,hx,hy,h,Option.map_some]) hv hr
theorem qMu {r : List Oper} {aft : Array Edge} {t : TypeId} {m k v : Operand} {Z : PV} {H1 : Heap} (hw : Zf all tm ⟨none, .mapUpdate t m k v, ty, pos, aft, grd⟩ = some true) (hx : Zh E tm m = X) (hy : Zh E tm k = Y) (hz : Zh E tm v = Z) (h : Yj E t X Y Z H = some H1)
  (hr:RegQ E P own n all r K tm H1):RegQ E P own n all (⟨none,.mapUpdate t m k v,ty,pos,aft,grd⟩::r) K tm H:=
 .op (p:= .undef) hw rfl (by simp only[aOp,hx,hy,hz,h,Option.map_some]) hr
end
def mpI (l:List (Int×Bool)):List (PV×PV):=l.map fun x=>(.int .i64 x.1,.bool x.2)
def mpS (l:List (List UInt8×Bool)):List (PV×PV):=l.map fun x=>(.str x.1,.bool x.2)
def lkB {α:Type} [DecidableEq α] (k:α):List (α×Bool)→Bool
 | []=>false
 |(x,b)::r=>if k=x then b else lkB k r
def upB {α:Type} [DecidableEq α] (k:α) (v:Bool):List (α×Bool)→List (α×Bool)
 | []=>[(k,v)]
 |(x,b)::r=>if k=x then(k,v)::r else(x,b)::upB k v r
theorem Zld {α:Type} [DecidableEq α] (k j:α) (v:Bool):∀l:List (α×Bool),lkB j (upB k v l)=if j=k then v else lkB j l
 | []=>by simp[upB,lkB]
 |(x,b)::r=>by simp only[upB];split;{rename_i h;subst h;simp only[lkB];split<;>rfl};{rename_i h;simp only[lkB,Zld k j v r];split;{rename_i h2;subst h2;rw[if_neg fun e=>h e.symm]};{rfl}}
theorem Zji (k : Int) : ∀(l : List (Int × Bool)) (i : Nat), ∃r, V7 (.int .i64 k) (mpI l) i = some r ∧ (match r with | some (_, v) => v = .bool (lkB k l) | none => lkB k l = false) ∧
  (match r with|some (j,_)=>i≤j∧(mpI l).set (j-i) (.int .i64 k,.bool true)=mpI (upB k true l)∧(mpI l).set (j-i) (.int .i64 k,.bool false)=mpI (upB k false l)|none=>∀v,mpI l++ [(.int .i64 k,.bool v)]=mpI (upB k v l))
 | [],i=>⟨none,rfl,rfl,fun v=>rfl⟩
 |(x,b)::r,i=>by
  by_cases h:k=x;{subst h;refine⟨some (i,.bool b),?_,?_,Nat.le_refl _,?_,?_⟩;{simp[mpI,V7,ZeX]};{simp[lkB]};{simp[mpI,upB]};{simp[mpI,upB]}}
  ·obtain⟨q,h1,h2,h3⟩:=Zji k r (i+1);refine⟨q,?_,?_,?_⟩;{simp only[mpI,List.map_cons,V7,ZeX,if_true];(have e:(k==x)=false:=by simpa using h);rw[e];exact h1};{simp only[lkB,if_neg h];exact h2}
   ·cases q with
    | none=>intro v;have:=h3 v;simp only[upB,if_neg h,mpI,List.map_cons,List.cons_append]at this ⊢;rw[this]
    | some z=>
     obtain⟨j,w⟩:=z;obtain⟨a1,a2,a3⟩:=h3;refine⟨by omega,?_,?_⟩;all_goals
      rw[show j-i=(j-(i+1))+1 by omega]
      simp only[upB,if_neg h,mpI,List.map_cons,List.set_cons_succ]at a2 a3 ⊢
      first|rw[a2]|rw[a3]
theorem Zjm (k : List UInt8) : ∀(l : List (List UInt8 × Bool)) (i : Nat), ∃r, V7 (.str k) (mpS l) i = some r ∧ (match r with | some (_, v) => v = .bool (lkB k l) | none => lkB k l = false) ∧
  (match r with|some (j,_)=>i≤j∧(mpS l).set (j-i) (.str k,.bool true)=mpS (upB k true l)∧(mpS l).set (j-i) (.str k,.bool false)=mpS (upB k false l)|none=>∀v,mpS l++ [(.str k,.bool v)]=mpS (upB k v l))
 | [],i=>⟨none,rfl,rfl,fun v=>rfl⟩
 |(x,b)::r,i=>by
  by_cases h:k=x;{subst h;refine⟨some (i,.bool b),?_,?_,Nat.le_refl _,?_,?_⟩;{simp[mpS,V7,ZeX]};{simp[lkB]};{simp[mpS,upB]};{simp[mpS,upB]}}
  ·obtain⟨q,h1,h2,h3⟩:=Zjm k r (i+1);refine⟨q,?_,?_,?_⟩;{simp only[mpS,List.map_cons,V7,ZeX];(have e:(k==x)=false:=by simpa using h);rw[e];exact h1};{simp only[lkB,if_neg h];exact h2}
   ·cases q with
    | none=>intro v;have:=h3 v;simp only[upB,if_neg h,mpS,List.map_cons,List.cons_append]at this ⊢;rw[this]
    | some z=>
     obtain⟨j,w⟩:=z;obtain⟨a1,a2,a3⟩:=h3;refine⟨by omega,?_,?_⟩;all_goals
      rw[show j-i=(j-(i+1))+1 by omega]
      simp only[upB,if_neg h,mpS,List.map_cons,List.set_cons_succ]at a2 a3 ⊢
      first|rw[a2]|rw[a3]
section
variable {E:Env} {t kt e:TypeId} {ti ei:TI} {id:Nat} {H:Heap}
theorem Zvz {n:Int} (ht:E.T t=some ti) (hk:ti.tk= .map kt e) (hko:Zdj E kt (.int .i64 n)=true) (he:E.T e=some ei) (hz:ei.zero= .bool false) (hb:nth H.bx id=some (.map (mpI l))):Wg E t (.map id) (.int .i64 n) false H=some (.bool (lkB n l)):=by
 obtain⟨r,h1,h2, -⟩:=Zji n l 0;simp only[Wg,ht,hk,hko,if_true,hb,h1];cases r with
 |none=>simp only[he,hz];rw[show lkB n l=false from h2];rfl
 |some z=>obtain⟨j,v⟩:=z;simp only;rw[show v= .bool (lkB n l) from h2];rfl
theorem ZtV {l:List (List UInt8×Bool)} {n:List UInt8} (ht:E.T t=some ti) (hk:ti.tk= .map kt e) (hko:Zdj E kt (.str n)=true) (he:E.T e=some ei) (hz:ei.zero= .bool false) (hb:nth H.bx id=some (.map (mpS l))):Wg E t (.map id) (.str n) false H=some (.bool (lkB n l)):=by
 obtain⟨r,h1,h2, -⟩:=Zjm n l 0;simp only[Wg,ht,hk,hko,if_true,hb,h1];cases r with
 |none=>simp only[he,hz];rw[show lkB n l=false from h2];rfl
 |some z=>obtain⟨j,v⟩:=z;simp only;rw[show v= .bool (lkB n l) from h2];rfl
theorem ZvL {n:Int} (v:Bool) (ht:E.T t=some ti) (hk:ti.tk= .map kt e) (hko:Zdj E kt (.int .i64 n)=true) (hb:nth H.bx id=some (.map (mpI l))) (hr:H.ro≤id):Yj E t (.map id) (.int .i64 n) (.bool v) H=some {H with bx:=H.bx.set id (.map (mpI (upB n v l)))}:=by
 obtain⟨r,h1, -,h3⟩:=Zji n l 0;simp only[Yj,ht,hk,hko,if_true,hb,h1,Heap.put];cases r with
 |none=>simp only[if_neg (show ¬ id<H.ro by omega)];rw[show mpI l++ [(.int .i64 n,.bool v)]=mpI (upB n v l) from h3 v]
 |some z=>obtain⟨j,w⟩:=z;obtain⟨-,a2,a3⟩:=h3;rw[Nat.sub_zero]at a2 a3;simp only[if_neg (show ¬ id<H.ro by omega)];cases v;{rw[a3]};{rw[a2]}
theorem Zut {l:List (List UInt8×Bool)} {n:List UInt8} (v:Bool) (ht:E.T t=some ti) (hk:ti.tk= .map kt e) (hko:Zdj E kt (.str n)=true) (hb:nth H.bx id=some (.map (mpS l))) (hr:H.ro≤id):Yj E t (.map id) (.str n) (.bool v) H=some {H with bx:=H.bx.set id (.map (mpS (upB n v l)))}:=by
 obtain⟨r,h1, -,h3⟩:=Zjm n l 0;simp only[Yj,ht,hk,hko,if_true,hb,h1,Heap.put];cases r with
 |none=>simp only[if_neg (show ¬ id<H.ro by omega)];rw[show mpS l++ [(.str n,.bool v)]=mpS (upB n v l) from h3 v]
 |some z=>obtain⟨j,w⟩:=z;obtain⟨-,a2,a3⟩:=h3;rw[Nat.sub_zero]at a2 a3;simp only[if_neg (show ¬ id<H.ro by omega)];cases v;{rw[a3]};{rw[a2]}
end
theorem ZiZ (n:Nat) (l:List (Int×Bool)):Yy n (.map (mpI l))=true:=by simp only[Yy,mpI,List.all_map,List.all_eq_true];intro x _;rfl
theorem ZiE (n:Nat) (l:List (List UInt8×Bool)):Yy n (.map (mpS l))=true:=by simp only[Yy,mpS,List.all_map,List.all_eq_true];intro x _;rfl
section
variable {E:Env} {P:Program}
theorem CallOk.resT {cs':List PV} {H:Heap} (h:CallOk E P f args H (.tup cs) H') (hf:ZH cs=some cs'):CallOk E P f args H (.tup cs') H':=by intro g w vals hi hg hv;refine UponCall.mono (fun v w' ⟨g',hp,hi',k⟩=>⟨g',?_,hi',k⟩) (h g w vals hi hg hv);obtain⟨h1,h2⟩:=X8 hf;exact Zcq h1 (fun i a b v x=> .pure _ _ (Zao x (h2 i a b))) hp
structure KeepT (lv:List Nat) (nt:Nat) (lv':List Nat) (nt':Nat):Prop where
 k:∀b es L o,ApV b es L o lv nt→ApV b es L o lv' nt'
theorem KeepT.refl (lv:List Nat) (nt:Nat):KeepT lv nt lv nt:=⟨fun _ _ _ _ h=>h⟩
theorem KeepT.trans {a b c:List Nat} {x y z:Nat} (h:KeepT a x b y) (h2:KeepT b y c z):KeepT a x c z:=⟨fun _ _ _ _ h3=>h2.k _ _ _ _ (h.k _ _ _ _ h3)⟩
theorem CallOk.two {A B B' : Box} {lv lv' : List Nat} {nt nt' : Nat} (h : CallOk E P f args ⟨[A, B], 0, lv, nt⟩ r ⟨[A, B'], 0, lv', nt'⟩) (hu : ZO 2 args = true) (hA : Yy 2 A = true) (hB : Yy 2 B = true) (ext : List Box) :
  CallOk E P f args ⟨A::B::ext,0,lv,nt⟩ r ⟨A::B'::ext,0,lv',nt'⟩:=
 CallOk.ext (bx:=[A,B]) (bx':=[A,B']) (ext:=ext) h rfl hu (by simp[hA,hB]) (Nat.zero_le _)
end
def YR (w s:List UInt8):Bool:=decide (s.take w.length=w)
theorem Vb (c d:UInt8) (r:List UInt8):YR [c] (d::r)=decide (d=c):=by simp[YR]
theorem Ux (c:UInt8) (w:List UInt8):YR (c::w) []=false:=by simp[YR]
theorem Zpo (c d:UInt8) (s:List UInt8):YR [c,d] s=true↔∃r,s=c::d::r:=by
 match s with
 | []=>simp[YR]
 | [a]=>simp[YR]
 |a::b::r=>rw[YR,decide_eq_true_eq];constructor;{intro h;have h2:[a,b]= [c,d]:=h;simp only[List.cons.injEq,and_true]at h2;exact⟨r,by rw[h2.1,h2.2]⟩};{rintro⟨q,h⟩;simp only[List.cons.injEq]at h;rw[h.1,h.2.1];rfl}
def ZcB (w:List UInt8):Int:=if w= [97,110,121] then 0 else if w= [97,103,101,110,116] then 1 else if w= [110,111,110,99,101] then 2 else if w= [107,101,121] then 3 else if w= [100,97,116,97] then 4 else if w= [116,97,103] then 5 else -1
theorem Zn7 (w:List UInt8): -1≤ZcB w∧ZcB w≤5:=by
 unfold ZcB;repeat' split
 all_goals omega
def YW (s:List UInt8):List UInt8:=s.takeWhile Yx
theorem UT (c:UInt8) (r:List UInt8):YW (c::r)=if Yx c=true then c::YW r else[]:=by simp only[YW,List.takeWhile_cons]
theorem Q8 (s:List UInt8):s=YW s++s.drop (YW s).length:=by
 induction s with
 |nil=>rfl
 |cons c r ih=>rw[UT];split;{rw[List.length_cons,List.drop_succ_cons,List.cons_append, ← ih]};{rfl}
theorem UN (s:List UInt8):(YW s).length≤s.length:=by have:=congrArg List.length (Q8 s);rw[List.length_append]at this;omega
def Vc (v:Bool) (nm s:List UInt8):Option (Tm×List UInt8):=
 if YR [58] s=true then
  if(if v=true then 1 else 0)≤ZcB (YW (s.drop 1)) then some (.mk (if v=true then 1 else 2) nm (ZcB (YW (s.drop 1))) true [],(s.drop 1).drop (YW (s.drop 1)).length) else none
 else if v=true then some (.mk 1 nm 0 true [],s) else none
def Zen (f:List UInt8→Option (Tm×List UInt8)):Nat→List Tm→List UInt8→Option (List Tm×List UInt8)
 |0,_,_=>none
 | n + 1, acc, s =>
   if YR [41] s=true then some (acc,s.drop 1)
   else if acc≠ []∧YR [44,32] s=false then none
   else match f (if acc= [] then s else s.drop 2) with
    | none=>none
    | some x=>Zen f n (acc++ [x.1]) x.2
def rdF:Nat→List UInt8→Option (Tm×List UInt8)
 |0,_=>none
 | d + 1, s =>
   let v:=YR [63] s
   let s1:=if v=true then s.drop 1 else s
   let nm:=YW s1
   let s2:=s1.drop nm.length
   if YA nm=false then none
   else if v=true then Vc true nm s2
   else if YR [40] s2=true then
    match Zen (rdF d) s2.length [] (s2.drop 1) with
    | none=>none
    | some x=>some (.mk 3 nm 0 true x.1,x.2)
   else Vc false nm s2
def Qv (d:Nat) (s:List UInt8):Tm×Int:=match rdF d s with
 |some (t,[])=>if t.valid≠0 then(.mk 0 [] 0 true [],t.valid) else(t,0)
 |_=>(.mk 0 [] 0 true [],2)
theorem Y9:∀a b:List Tm,Zk (a++b)=Zk a+Zk b
 | [],b=>by simp[Zk]
 |t::r,b=>by rw[List.cons_append,Zk,Zk,Y9 r b];omega
theorem Zej (h:YA s=true):1≤s.length∧s.length≤24:=by
 cases s with
 |nil=>cases h
 |cons c r=>rw[YA,Bool.and_eq_true,decide_eq_true_eq]at h;exact⟨by simp,h.1⟩
theorem Zjo {v:Bool} {nm:List UInt8} {t:Tm} {r:List UInt8} (h:Vc v nm s=some (t,r)):(∃p,s=p++r)∧(∃k so,t= .mk k nm so true []∧(k=1∨k=2)∧0≤so∧so≤5):=by
 unfold Vc at h;have h3:=Zn7 (YW (s.drop 1));by_cases h1:YR [58] s=true;{rw[if_pos h1]at h;by_cases h2:(if v=true then 1 else 0)≤ZcB (YW (s.drop 1));{rw[if_pos h2]at h;generalize ZcB (YW (s.drop 1))=so at h h2 h3;simp only[Option.some.injEq,Prod.mk.injEq]at h;obtain⟨rfl,rfl⟩:=h;refine⟨⟨s.take (1+(YW (s.drop 1)).length),by rw[List.drop_drop,List.take_append_drop]⟩,_,_,rfl,?_,?_,h3.2⟩;{cases v;{exact .inr rfl};{exact .inl rfl}};{split at h2<;>omega}};{rw[if_neg h2]at h;cases h}}
 ·rw[if_neg h1]at h;cases v with
  | false=>rw[if_neg (by decide)]at h;cases h
  | true=>rw[if_pos rfl]at h;simp only[Option.some.injEq,Prod.mk.injEq]at h;obtain⟨rfl,rfl⟩:=h;exact⟨⟨[],rfl⟩,_,_,rfl,.inl rfl,by omega,by omega⟩
structure RdQ (s:List UInt8) (t:Tm) (r:List UInt8):Prop where
 suf:∃p,s=p++r
 len:r.length+t.size≤s.length
 ok:t.Ok
theorem ZnE {so:Int} (h0:0≤so) (h5:so≤5):(Lit.int .i64 so).wf=true:=by
 have:so=0∨so=1∨so=2∨so=3∨so=4∨so=5:=by omega
 rcases this with rfl|rfl|rfl|rfl|rfl|rfl<;>decide
theorem Zjs {f : List UInt8 → Option (Tm × List UInt8)} (hf : ∀s t r, s.length ≤ 1000000 → f s = some (t, r) → RdQ s t r) : ∀(n : Nat) (acc : List Tm) (s : List UInt8) (l : List Tm) (r : List UInt8), s.length ≤ 1000000 → Zen f n acc s = some (l, r) → (∀t, t ∈ acc → t.Ok) →
  (∃p,s=p++r)∧r.length+Zk l+1≤s.length+Zk acc∧(∀t,t∈l→t.Ok)∧l.length≤acc.length+s.length
 |0,acc,s,l,r,_,h,_=>by cases h
 |n+1,acc,s,l,r,hsl,h,ha=>by
  unfold Zen at h;split at h
  ·rename_i h1;simp only[Option.some.injEq,Prod.mk.injEq]at h;obtain⟨rfl,rfl⟩:=h;cases s with
   | nil=>rw[Ux]at h1;cases h1
   | cons c q=>exact⟨⟨[c],rfl⟩,by simp;omega,ha,by omega⟩
  {split at h;{cases h};{rename_i h1 h2;split at h;{cases h};{rename_i x hx;obtain⟨t,q⟩:=x;(have hle:(if acc= [] then s else s.drop 2).length≤1000000:=by split;{exact hsl};{rw[List.length_drop];omega});have h3:=hf _ _ _ hle hx;(have hq:q.length≤1000000:=by have:=h3.len;split at this;{omega};{rw[List.length_drop]at this;omega});(obtain⟨⟨p,hp⟩,h5,h6,h7⟩:=Zjs hf n (acc++ [t]) q l r hq h fun y hy=>by rcases List.mem_append.1 hy with hy|hy;{exact ha y hy};{rw[List.mem_singleton.1 hy];exact h3.ok});obtain⟨u,hu⟩:=h3.suf;have hl:=h3.len;have hz:=WQ t;(have es:Zk (acc++ [t])=Zk acc+t.size:=by rw[Y9,Zk,Zk];omega);(have hss:∃z,s=z++q∧q.length+t.size≤s.length:=by split at hu;{rename_i e;rw[if_pos e]at hl;exact⟨u,hu,hl⟩};{rename_i e;rw[if_neg e]at hl;rw[List.length_drop]at hl;exact⟨s.take 2++u,by rw[List.append_assoc, ← hu,List.take_append_drop],by omega⟩});obtain⟨z,hz1,hz2⟩:=hss;refine⟨⟨z++p,by rw[hz1,hp,List.append_assoc]⟩,by rw[es]at h5;omega,h6,?_⟩;rw[List.length_append,List.length_singleton]at h7;omega}}}
theorem ZfN:∀(d:Nat) (s:List UInt8) (t:Tm) (r:List UInt8),s.length≤1000000→rdF d s=some (t,r)→RdQ s t r
 |0,s,t,r,_,h=>by cases h
 | d + 1, s, t, r, hs, h => by
   simp only[rdF]at h
   generalize hs1:(if YR [63] s=true then s.drop 1 else s)=s1 at h
   have e1:∃p,s=p++s1∧s1.length≤s.length:=by
    rw[← hs1]
    split
    · exact⟨s.take 1,(List.take_append_drop 1 s).symm,by simp⟩
    · exact⟨[],rfl,Nat.le_refl _⟩
   obtain⟨p,hp,hpl⟩:=e1
   have e2:=Q8 s1
   have e3:=congrArg List.length e2
   rw[List.length_append]at e3
   generalize hs2:s1.drop (YW s1).length=s2 at h e2 e3
   split at h
   · cases h
   rename_i hn
   have hnl:=Zej (by simpa using hn:YA (YW s1)=true)
   generalize YW s1=nm at h e2 e3 hnl
   have leaf:∀v,Vc v nm s2=some (t,r)→RdQ s t r:=fun v hv=>by
    obtain⟨⟨q,hq⟩,k,so,rfl,hk,h0,h5⟩:=Zjo hv
    have:=congrArg List.length hq
    rw[List.length_append]at this
    refine⟨⟨p++(nm++q),by rw[hp,e2,hq];simp⟩,?_,.mk (by rcases hk with rfl|rfl<;>decide) (ZnE h0 h5) (by have:maxLen=9223372036854775807:=rfl;omega) (by simp) (by simp)⟩
    simp only[Tm.size,Zk]
    omega
   split at h
   · exact leaf _ h
   split at h
   · rename_i h40
     split at h
     · cases h
     · rename_i x hx
       obtain⟨l,q⟩:=x
       simp only[Option.some.injEq,Prod.mk.injEq]at h
       obtain⟨rfl,rfl⟩:=h
       obtain⟨⟨u,hu⟩,k2,k3,k4⟩:=Zjs (fun s t r hs h=>ZfN d s t r hs h) s2.length [] (s2.drop 1) l q (by rw[List.length_drop];omega) hx (by simp)
       cases s2 with
       | nil=>rw[Ux]at h40;cases h40
       | cons c s3 =>
         simp only[List.drop_succ_cons,List.drop_zero]at hu k2 k4
         rw[List.length_cons]at e3
         refine⟨⟨p++(nm++c::u),by rw[hp,e2,hu];simp⟩,?_,.mk (by decide) (by decide) (by have:maxLen=9223372036854775807:=rfl;omega) (by have:maxLen=9223372036854775807:=rfl;simp only[List.length_nil]at k4;omega) k3⟩
         simp only[Tm.size]
         rw[Zk]at k2
         omega
   · exact leaf _ h
def bhV (s:List UInt8):List UInt8:=if YR [63] s=true then s.drop 1 else s
theorem Zp3 (d : Nat) (s : List UInt8) : rdF (d + 1) s = (if YA (YW (bhV s)) = false then none
      else if YR [63] s=true then Vc true (YW (bhV s)) ((bhV s).drop (YW (bhV s)).length)
      else if YR [40] ((bhV s).drop (YW (bhV s)).length)=true then
       match Zen (rdF d) ((bhV s).drop (YW (bhV s)).length).length [] (((bhV s).drop (YW (bhV s)).length).drop 1) with
       | none=>none
       | some x=>some (.mk 3 (YW (bhV s)) 0 true x.1,x.2)
      else Vc false (YW (bhV s)) ((bhV s).drop (YW (bhV s)).length)):=rfl
def spW (sep:List UInt8):Nat→List UInt8→List UInt8→List (List UInt8)
 |_,cur,[]=>[cur]
 |0,cur,c::r=>if YR sep (c::r)=true then cur::spW sep (sep.length-1) [] r else spW sep 0 (cur++ [c]) r
 |k+1,cur,_::r=>spW sep k cur r
def spl (sep s:List UInt8):List (List UInt8):=spW sep 0 [] s
theorem U9 (sep:List UInt8) (k:Nat) (cur:List UInt8):spW sep k cur []= [cur]:=by unfold spW;rfl
theorem Zb8 {c:UInt8} {r:List UInt8} (h:YR sep (c::r)=true) (cur:List UInt8):spW sep 0 cur (c::r)=cur::spW sep (sep.length-1) [] r:=by rw[spW,if_pos h]
theorem Zbs {c:UInt8} {r:List UInt8} (h:YR sep (c::r)=false) (cur:List UInt8):spW sep 0 cur (c::r)=spW sep 0 (cur++ [c]) r:=by rw[spW,if_neg (by rw[h];decide)]
theorem Zbq (sep:List UInt8) (k:Nat) (cur:List UInt8) (c:UInt8) (r:List UInt8):spW sep (k+1) cur (c::r)=spW sep k cur r:=by rw[spW]
theorem Zf7 (w s:List UInt8):YR w s=w.isPrefixOf s:=by rw[Bool.eq_iff_iff,List.isPrefixOf_iff_prefix,List.prefix_iff_eq_take,YR,decide_eq_true_iff];exact eq_comm
theorem Zkq {w:List UInt8} (h:YR w s=true):w.length≤s.length:=by
 have h2:s.take w.length=w:=by simpa[YR] using h
 have:=congrArg List.length h2;rw[List.length_take]at this;omega
theorem ZfY (sep:List UInt8):∀(k:Nat) (s cur:List UInt8),k≤s.length→spW sep k cur s=spW sep 0 cur (s.drop k)
 |0,s,cur,_=>rfl
 |k+1,[],cur,h=>by simp at h
 |k+1,c::r,cur,h=>by rw[Zbq,ZfY sep k r cur (by simpa using h)];rfl
theorem ZlZ {sep:List UInt8} (hs:sep≠ []):∀(s cur:List UInt8),spW sep 0 cur s=if Lib.index s sep= -1 then[cur++s] else(cur++s.take (Lib.index s sep).toNat)::spl sep (s.drop ((Lib.index s sep).toNat+sep.length))
 | [], cur => by
   have h:Lib.index [] sep= -1:=by
    unfold Lib.index
    cases sep with
    | nil=>exact absurd rfl hs
    | cons a b=>rfl
   rw[h,if_pos rfl,U9,List.append_nil]
 | c :: r, cur => by
   by_cases h:YR sep (c::r)=true
   · have hi : Lib.index (c :: r) sep = 0 := by
       unfold Lib.index
       rw[if_pos (by rw[← Zf7];exact h)]
     have hl:=Zkq h
     have h1:1≤sep.length:=List.length_pos_iff.2 hs
     rw[List.length_cons]at hl
     rw[Zb8 h,hi,if_neg (by decide),ZfY sep _ r [] (by omega)]
     obtain⟨m,hm⟩:∃m,sep.length=m+1:=⟨sep.length-1,by omega⟩
     simp[hm,spl]
   · have h : YR sep (c :: r) = false := by simpa using h
     have ih:=ZlZ hs r (cur++ [c])
     have hi:Lib.index (c::r) sep=if Lib.index r sep= -1 then -1 else Lib.index r sep+1:=by
      rw[Lib.index.eq_2,if_neg (by rw[← Zf7,h];decide)]
      by_cases h9:Lib.index r sep= -1
      · rw[if_pos h9,if_pos (beq_iff_eq.2 h9)]
      · rw[if_neg h9,if_neg (by rw[beq_iff_eq];exact h9)]
     have hge:=Lib.index_ge r sep
     rw[Zbs h,ih,hi]
     by_cases h9:Lib.index r sep= -1
     · rw[if_pos h9,if_pos h9,if_pos rfl,List.append_assoc];rfl
     · rw[if_neg h9, if_neg h9, if_neg (by omega)]
       obtain⟨i,hi2⟩:∃i:Nat,Lib.index r sep=i:=⟨(Lib.index r sep).toNat,by omega⟩
       rw[hi2,show((i:Int)+1)=((i+1:Nat):Int) by omega,Int.toNat_natCast,Int.toNat_natCast,List.take_succ_cons,show i+1+sep.length=(i+sep.length)+1 by omega,List.drop_succ_cons,List.append_assoc]
       rfl
theorem Zl6 (hs:sep≠ []) (s:List UInt8):spl sep s=if Lib.index s sep= -1 then[s] else s.take (Lib.index s sep).toNat::spl sep (s.drop ((Lib.index s sep).toNat+sep.length)):=by rw[spl,ZlZ hs];simp
theorem ZjU {sep:List UInt8} (hs:sep≠ []):∀(n:Nat) (s:List UInt8),s.length≤n→Lib.splitK sep 0 (Lib.count s sep) s=spl sep s
 |n,s,hn=>by
  have hge:=Lib.index_ge s sep;rw[Zl6 hs];by_cases h:Lib.index s sep= -1;{rw[Lib.count_miss h,if_pos h];rfl}
  ·obtain⟨i,hi⟩:∃i:Nat,Lib.index s sep=i:=⟨(Lib.index s sep).toNat,by omega⟩;have hro:=Lib.index_room s sep (by omega);have h1:1≤sep.length:=List.length_pos_iff.2 hs;cases n with
   | zero=>omega
   | succ n=>rw[Lib.count_hit hs hi,if_neg h,Nat.add_comm 1,Lib.splitK,if_neg (by rw[beq_iff_eq];exact h),hi,Int.toNat_natCast,Nat.add_zero,ZjU hs n _ (by rw[List.length_drop];omega)]
theorem Zgs (sep s:List UInt8):spl sep s≠ []:=by
 have h:∀(s cur:List UInt8) (k:Nat),spW sep k cur s≠ []:=by
  intro s
  induction s with
  | nil=>intro cur k;rw[U9];simp
  | cons c r ih =>
    intro cur k
    cases k with
    | zero =>
      rw[spW]
      split
      · simp
      · exact ih _ _
    | succ k=>rw[Zbq];exact ih _ _
 exact h _ _ _
theorem ZjD (_h1:1≤sep.length) (s:List UInt8):(spl sep s).length≤s.length+1:=by
 have h:∀(s cur:List UInt8) (k:Nat),(spW sep k cur s).length≤s.length+1:=by
  intro s
  induction s with
  | nil=>intro cur k;rw[U9];simp
  | cons c r ih =>
    intro cur k
    cases k with
    | zero =>
      rw[spW]
      split
      · have := ih [] (sep.length - 1)
        rw[List.length_cons,List.length_cons];omega
      · have := ih (cur ++ [c]) 0
        rw[List.length_cons];omega
    | succ k =>
      rw[Zbq]
      have:=ih cur k
      rw[List.length_cons];omega
 exact h _ _ _
theorem Zp1 (sep:List UInt8):∀(s cur:List UInt8) (k:Nat) (x:List UInt8),x∈spW sep k cur s→x.length≤cur.length+s.length:=by
 intro s;induction s with
 |nil=>intro cur k x hx;rw[U9]at hx;simp at hx;subst hx;simp
 |cons c r ih=>
  intro cur k x hx;rw[List.length_cons];cases k with
  | zero=>rw[spW]at hx;split at hx;{rcases List.mem_cons.1 hx with rfl|hx;{omega};{have:=ih _ _ _ hx;rw[List.length_nil]at this;omega}};{have:=ih _ _ _ hx;rw[List.length_append,List.length_singleton]at this;omega}
  | succ k=>rw[Zbq]at hx;have:=ih _ _ _ hx;omega
theorem ZlV {x:List UInt8} (h:x∈spl sep s):x.length≤s.length:=by have:=Zp1 sep s [] 0 x h;rw[List.length_nil]at this;omega
def Zj1 (c:UInt8):Bool:=decide (48≤c.toNat∧c.toNat≤57)
def UZ:Nat→List UInt8→Option Nat
 |a,[]=>some a
 |a,c::r=>if Zj1 c=true then UZ (10*a+(c.toNat-48)) r else none
def ZlG (s:List UInt8):Option Nat:=if s.length=0∨6<s.length then none else match UZ 0 s with
 |some n=>if Lib.decDigits n=s then some n else none
 |none=>none
def Zpf (s:List UInt8):Nat×Bool:=if s.length=0∨6<s.length then(0,false) else match UZ 0 s with
 |some n=>(n,decide (Lib.decDigits n=s))
 |none=>(0,false)
theorem ZpS (s:List UInt8):ZlG s=if(Zpf s).2=true then some (Zpf s).1 else none:=by
 unfold ZlG Zpf;split;{rfl}
 ·cases UZ 0 s with
  | none=>rfl
  | some n=>simp
theorem Zic:∀(s:List UInt8) (a n k:Nat),a<10 ^ k→UZ a s=some n→n<10 ^ (k+s.length)
 | [],a,n,k,ha,h=>by simp[UZ]at h;subst h;simpa using ha
 |c::r,a,n,k,ha,h=>by rw[UZ]at h;split at h;{rename_i hd;(have hd:48≤c.toNat∧c.toNat≤57:=by simpa[Zj1] using hd);have:=Zic r _ n (k+1) (by rw[Nat.pow_succ];omega) h;rw[List.length_cons,show k+(r.length+1)=k+1+r.length by omega];exact this};{cases h}
theorem ZnN (s:List UInt8):(Zpf s).1≤999999:=by
 unfold Zpf;split;{exact Nat.zero_le _}
 ·rename_i h;cases hv:UZ 0 s with
  | none=>exact Nat.zero_le _
  | some n=>have:=Zic s 0 n 0 (by decide) hv;(have h6:s.length≤6:=by omega);have:=Nat.pow_le_pow_right (n:=10) (by decide) (show 0+s.length≤6 by omega);show n≤999999;omega
def nmsL:List ZY:=[[],[115,116,97,114,116],[114,101,99,101,105,118,101],[115,101,110,100],[98,101,103,105,110],[99,108,97,105,109],[114,101,118,101,97,108],[116,105,109,101,111,117,116]]
def kdP (w:ZY):Nat→Int
 |0=>0
 |n+1=>if w=nmsL.getD (n+1) [] then((n+1:Nat):Int) else kdP w n
theorem Zmj (w:ZY):∀n,0≤kdP w n∧kdP w n≤n
 |0=>by simp[kdP]
 |n+1=>by have:=Zmj w n;rw[kdP];split<;>omega
theorem Zh7 {l:List ZY} {i:Nat} {x:ZY} (h:l[i]? = some x):l.drop i=x::l.drop (i+1):=by obtain⟨hi,rfl⟩:=List.getElem?_eq_some_iff.1 h;exact List.drop_eq_getElem_cons hi
open Go.RowKit
section
variable {E:Env} {P:Program}
theorem Qs (hf:FnOk P f fn c) (hmono:E.mono=false) (h:∀(g:Gh) (w:World) (vals:Array Value),(∀b o v,g.S b o=some v→w.cell? ⟨b,o,none⟩=some v)→GOk E g→VL g args vals.toList→∃v,V0 g.S r v∧Calls P f vals w fun e w'=>e= .returned v∧Below w.heap.size w w'):∀H,CallOk E P f args H r H:=by intro H g w vals hi hg hv;obtain⟨v,hv0,hc⟩:=h g w vals hi.st hg hv;rw[Zv hf];refine Calls.mono hc fun e w' ⟨h1,hb⟩=>?_;obtain⟨j1,j2⟩:=UV hi (fun k hk=>hb.block k hk) hb.size ⟨hb.os,hb.output,hb.tape,fun hm=>absurd (hg.2.1 hm) (by rw[hmono];simp)⟩;exact⟨v,h1,g,.pure _ _ hv0,j1,j2⟩
theorem ZqB {g:Gh} {k:Nat} (hg:GOk E g) (hG:E.G k=some cs) {w:World} (hst:∀b o v,g.S b o=some v→w.cell? ⟨b,o,none⟩=some v) {kk:IntKind} {j:Nat} {n:Int} (h:cs[j]? = some (.int kk n)):w.cell? ⟨k,j,none⟩=some (.int kk n):=by
 obtain⟨b,o,vals,h1,h2,h3⟩:=(V.pure (g:=g) _ _ (hg.1 k cs hG)).fptr_inv;simp only[Value.pointer.injEq,Option.some.injEq,Addr.mk.injEq,and_true]at h3;obtain⟨rfl,h3⟩:=h3;obtain rfl:o=0:=by omega
 obtain⟨hj,hx⟩:=List.getElem?_eq_some_iff.1 h;have e:=h2 j hj;rw[hx]at e;have h4:=h1 j hj;cases hv:vals j with
 |int k' n'=>rw[hv]at e h4;cases e;simpa using hst _ _ _ h4
 |_=>rw[hv]at e;cases e
end
open Go.Sort in
theorem ZgH (w:World) (k:Nat) (os:Array Obj):Below w.heap.size w (grow (w.drewN k) os):=by refine⟨rfl,rfl,rfl,by simp[grow,World.drewN],fun j hj=>?_⟩;simp only[grow,World.drewN];rw[Array.getElem?_append_left hj]
section
variable {E:Env} {P:Program}
theorem ZbT (hf:FnOk P f fn c) (hmono:E.mono=false) (h:∀(g:Gh) (w:World) (vals:Array Value),(∀b o v,g.S b o=some v→w.cell? ⟨b,o,none⟩=some v)→GOk E g→VL g args vals.toList→Calls P f vals w fun e w'=>∃v,e= .returned v∧V0 g.S r v∧Below w.heap.size w w'):∀H,CallOk E P f args H r H:=by intro H g w vals hi hg hv;have hc:=h g w vals hi.st hg hv;rw[Zv hf];refine Calls.mono hc fun e w' ⟨v,h1,hv0,hb⟩=>?_;obtain⟨j1,j2⟩:=UV hi (fun k hk=>hb.block k hk) hb.size ⟨hb.os,hb.output,hb.tape,fun hm=>absurd (hg.2.1 hm) (by rw[hmono];simp)⟩;exact⟨v,h1,g,.pure _ _ hv0,j1,j2⟩
theorem ZeP (hf:FnOk P f fn c) {l:List ZY} (h:∀(g:Gh) (w:World) (vals:Array Value),(∀b o v,g.S b o=some v→w.cell? ⟨b,o,none⟩=some v)→GOk E g→VL g args vals.toList→∃(bs:List ByteArray) (T:TypeId),bs.map (·.data.toList)=l∧Calls P f vals w fun e w'=>e= .returned (.slice (some ⟨w.heap.size,0,none⟩) bs.length bs.length)∧w'=w.alloc (.cells (bs.map Value.string).toArray T)):∀H,CallOk E P f args H (.sl .none 1 (ZD l)) H:=by
 intro H g w vals hi hg hv;obtain⟨bs,T,hbs,hc⟩:=h g w vals hi.st hg hv;rw[Zv hf];refine Calls.mono hc fun e w' ⟨h1,hb⟩=>?_;subst hb;obtain⟨j1,j2⟩:=Zdy hi (.cells (bs.map Value.string).toArray T) (fun o=>(bs.map Value.string)[o]?) (fun o v hs=>by
  rw[World.cell?]
  simp only[Z5]
  simpa using hs) rfl
 refine⟨_,h1,_,?_,j1,j2⟩;have hl:l.length=bs.length:=by rw[← hbs,List.length_map]
 have hV:V0 (g.addS w.heap.size fun o=>(bs.map Value.string)[o]?).S (.sl .none 1 (ZD l)) (.slice (some ⟨w.heap.size,0,none⟩) (ZD l).length bs.length):=by refine .sl .none 1 (ZD l) ⟨w.heap.size,0,none⟩ w.heap.size 0 bs.length (fun i j=>Value.string (bs.getD i default)) (fun _=>rfl) (.inl rfl) (by rw[ZC];omega) (fun i hi=>by simp[ZD]) (fun i j hi hj=>?_) (fun i hi j hj=>?_);{rw[ZC]at hi;(obtain rfl:j=0:=by omega);(have hi2:i<bs.length:=by omega);simp[Gh.addS,hi2]};{rw[ZC]at hi;(have hi2:i<bs.length:=by omega);(have e:(ZD l)[i]= [.str (l[i])]:=by simp[ZD]);simp only[e]at hj ⊢;(obtain rfl:j=0:=by simpa using hj);refine .str _ _ ?_;subst hbs;simp[List.getD_eq_getElem?_getD,hi2]}
 rw[ZC,hl]at hV;exact .pure _ _ hV
end
theorem V6 {t:Tm} (h:t.valid=0):t.nodes=0:=by unfold Tm.valid at h;by_cases e:t.nodes=0;{exact e};{rw[if_pos e]at h;exact h}
variable {g:Int→Bs→Bs}
section
variable {E:Env} {P:Program}
theorem CodeTo.switch {own own':Tmp→Bool} {n id:Nat} {ops:Array Oper} {tm tm':TM} {H:Heap} {ex:Ex} (h:CodeTo E P own' n c tm H ex tm' H'):c= .region id ops true→CodeTo E P own n c tm H ex tm' H':=by
 induction h with
 |draw id ops tm H tm' H' h=>intro _;exact .draw id ops tm H tm' H' h
 |drop c tm H ex tm' H' tm2 _ hs hu ih=>intro hc;exact .drop c tm H ex tm' H' tm2 (ih hc) hs hu
 |_=>intro hc;cases hc
theorem Wp.switch {own:Tmp→Bool} (own':Tmp→Bool) {n id:Nat} {ops:Array Oper} {Q:Ex→TM→Heap→Prop} {tm:TM} {H:Heap} (h:Wp E P own' n (.region id ops true) Q tm H):Wp E P own n (.region id ops true) Q tm H:=by obtain⟨ex,tm',H',h1,h2⟩:=h.out;exact⟨ex,tm',H',h1.switch rfl,h2⟩
end
def ZcZ (g:Gh) (w:World):Gh:={S:=fun b o=>w.cell? ⟨b,o,none⟩,σ:=fun _=>none,τ:=fun _=>none,κ:=fun _=>0,mono:=g.mono}
def Zrx:PV→Bool
 | .bool _=>true
 | .int _ _=>true
 | .str _=>true
 | .tup l => l.all fun x => match x with
   | .bool _=>true
   | .int _ _=>true
   | .str _=>true
   | _=>false
 |_=>false
section
variable {E:Env} {P:Program} {g:Gh} {H:Heap} {w:World}
theorem ZmX {S S':VN} (hs:Zrx p=true) (h:V0 S p v):V0 S' p v:=by
 cases h with
 |bool b=>exact .bool b
 |int k n=>exact .int k n
 |str s b h=>exact .str s b h
 |tup cs vs hl hv=>
  refine .tup cs vs hl fun i hi=>?_;have hx:(match cs[i] with
   | .bool _=>true
   | .int _ _=>true
   | .str _=>true
   | _=>false)=true:=List.all_eq_true.1 hs _ (List.getElem_mem hi)
  have hvi:=hv i hi;revert hx hvi;generalize cs[i]=x;generalize vs[i]'(by omega)=y;intro hx hvi;cases hvi with
  | bool b=>exact .bool b
  | int k n=>exact .int k n
  | str s b h=>exact .str s b h
  | nilp=>cases hx
  | nils=>cases hx
  | nilm=>cases hx
  | nilf=>cases hx
  | nili=>cases hx
  | ifc=>cases hx
  | undef=>cases hx
  | sl=>cases hx
  | fptr=>cases hx
  | agg=>cases hx
  | tup=>cases hx
  | fn=>cases hx
 |nilp=>cases hs
 |nils=>cases hs
 |nilm=>cases hs
 |nilf=>cases hs
 |nili=>cases hs
 |ifc=>cases hs
 |undef=>cases hs
 |sl=>cases hs
 |fptr=>cases hs
 |agg=>cases hs
 |fn=>cases hs
theorem ZpG {g:Gh} (hs:Zrx p=true) (h:V g p v):V g' p v:=by
 cases h with
 |pure _ _ h=>exact .pure _ _ (ZmX hs h)
 |tup cs vs hl hv=>
  refine .tup cs vs hl fun i hi=>?_;have hx:(match cs[i] with
   | .bool _=>true
   | .int _ _=>true
   | .str _=>true
   | _=>false)=true:=List.all_eq_true.1 hs _ (List.getElem_mem hi)
  have hvi:=hv i hi;revert hx hvi;generalize cs[i]=x;generalize vs[i]'(by omega)=y;intro hx hvi;cases hvi with
  | pure _ _ h=>
   refine .pure _ _ ?_;cases h with
   | bool b=>exact .bool b
   | int k n=>exact .int k n
   | str s b h=>exact .str s b h
   | nilp=>cases hx
   | nils=>cases hx
   | nilm=>cases hx
   | nilf=>cases hx
   | nili=>cases hx
   | ifc=>cases hx
   | undef=>cases hx
   | sl=>cases hx
   | fptr=>cases hx
   | agg=>cases hx
   | tup=>cases hx
   | fn=>cases hx
  | _=>cases hx
 |_=>cases hs
theorem ZkI (_hi:Inv g H w):Inv (ZcZ g w) hNil w where
 st _ _ _ h:=h
 bx id es el h:=by simp[hNil]at h
 mp id es h:=by simp[hNil]at h
 sp id T cs h:=by simp[hNil]at h
 inj i j b h:=(Xy h).elim
 sd _ _:=rfl
 td _ _:=rfl
 tk t b lo hi' h:=by simp[hNil]at h
 tinj t t' b lo hi' lo' hi2 h:=by simp[hNil]at h
 nd:=List.nodup_nil
 lt t h:=by simp[hNil]at h
 sz id b h:=by simp[ZcZ]at h
 ro:=Nat.le_refl _
 rm id b c T m h:=(Xy h).elim
theorem ZgM (hi:Inv g H w) (hh:∀b,b<w.heap.size→w'.heap[b]? = w.heap[b]?) (hsz:w.heap.size≤w'.heap.size) (hso:SameOut g w w'):Inv (WW g w w') H w'∧Keep g H w (WW g w w') H w':=by
 have hS:∀b o,b<w.heap.size→(WW g w w').S b o=g.S b o:=fun b o hb=>by simp[WW,hb]
 have hle:g.Le (WW g w w'):=⟨fun b o v h=>by rw[hS b o (hi.S_lt h)];exact h,fun _ _ h=>h,fun _ _ h=>h,fun _ _ _=>rfl,rfl⟩;refine⟨⟨?_,?_,?_,?_,hi.inj,hi.sd,hi.td,?_,hi.tinj,hi.nd,hi.lt,?_,hi.ro,fun id b c T m h1 h2 h3=>hi.rm id b c T m h1 h2 (by rw[← hh b (hi.sz _ _ h2)];exact h3)⟩,⟨hle,fun b hb _=>hh b hb,fun b hb _ o=>hS b o hb,hsz,?_,?_,rfl,Nat.le_refl _,fun _ _=>rfl,Nat.le_refl _,fun _ h=> .inl h,fun _ _ _ h=>h,fun _ _ h=>h,hso⟩⟩;{intro b o v h;by_cases hb:b<w.heap.size;{rw[hS b o hb]at h;rw[cell_of_heap (hh b hb)];exact hi.st _ _ _ h};{simpa[WW,hb] using h}};{intro id es el h;obtain⟨b,c,T,h1,h2,h3,h4,h5,h6⟩:=hi.bx id es el h;have hb:=hi.sz _ _ h1;exact⟨b,c,T,h1,by rw[hh b hb];exact h2,h3,h4,fun i hi' j hj=>let ⟨v,e,x⟩:=h5 i hi' j hj;⟨v,e,x.mono hle⟩,fun o=>by rw[hS b o hb];exact h6 o⟩};{intro id es h;obtain⟨b,c,T,h1,h2,h3,h4,h5⟩:=hi.mp id es h;have hb:=hi.sz _ _ h1;exact⟨b,c,T,h1,by rw[hh b hb];exact h2,h3,fun i hi'=>let ⟨e,a,x,y⟩:=h4 i hi';⟨e,a,x.mono hle,y.mono hle⟩,fun o=>by rw[hS b o hb];exact h5 o⟩};{intro id T cs h;obtain⟨b,c,h1,h2,h3,h4,h5⟩:=hi.sp id T cs h;have hb:=hi.sz _ _ h1;exact⟨b,c,h1,by rw[hh b hb];exact h2,h3,fun j hj=>let ⟨v,e,x⟩:=h4 j hj;⟨v,e,x.mono hle⟩,fun o=>by rw[hS b o hb];exact h5 o⟩}
 ·intro t b lo hi' h1 h2;obtain⟨⟨c,T,h3,h4⟩,h5,h6⟩:=hi.tk t b lo hi' h1 h2;have hb:b<w.heap.size:=by rcases Nat.lt_or_ge b w.heap.size with h|h;{exact h};{simp[Array.getElem?_eq_none h]at h3}
  exact⟨⟨c,T,by rw[hh b hb];exact h3,h4⟩,fun o ho=>by rw[hS b o hb];exact h5 o ho,h6⟩
 {intro id b h;exact Nat.lt_of_lt_of_le (hi.sz _ _ h) hsz};{intro id b h h';rw[show(WW g w w').σ id=g.σ id from rfl,h]at h';cases h'};{intro t b lo hi' h h';rw[show(WW g w w').τ t=g.τ t from rfl,h]at h';cases h'}
theorem Zey (hi : Inv g H w) (k : Keep (ZcZ g w) hNil w g' H' w') :
  Inv (WW g w w') H w'∧Keep g H w (WW g w w') H w':=ZgM hi (fun b hb=>k.heap b hb (WL _ b)) k.size k.so
theorem Zaf {args':List PV} (h:CallOk E P f args' hNil r hNil) (ha:Wu 0 H args=some args') (hr:Zrx r=true):CallOk E P f args H r H:=by intro g w vals hi hg hv;obtain⟨l1,l2⟩:=Zcg ha;have hSt:∀b o v,g.S b o=some v→(ZcZ g w).S b o=some v:=fun b o v h=>hi.st b o v h;have hv':VL (ZcZ g w) args' vals.toList:=⟨by rw[l1];exact hv.1,fun i h1 h2=>V.pure (g:=ZcZ g w) _ _ (ZeL hi hSt (fun id b o v _ _ hc=>hc) (hv.2 i (by omega) h2) (l2 i (by omega) h1))⟩;have hg':GOk E (ZcZ g w):=⟨fun k cs e=>(hg.1 k cs e).mono hSt,hg.2.1,fun k q hk=>let ⟨v,e,h⟩:=hg.2.2 k q hk;⟨v,hSt _ _ _ e,h⟩⟩;refine UponCall.mono (fun v w' ⟨g',hp,hi',k⟩=>?_) (h (ZcZ g w) w vals (ZkI hi) hg' hv');obtain⟨i1,k1⟩:=Zey hi k;exact⟨WW g w w',ZpG hr hp,i1,k1⟩
end
section
variable {E:Env} {P:Program} {w:World}
theorem Zhj (hf:FnOk P f fn c) (hG:GOk E (wG w)) (h:CallOk E P f args hNil r hNil) {vals:Array Value} (hv:Vl (wS w) args vals.toList):Calls P f vals w fun e w'=>∃v,e= .returned v∧(∃g',V g' r v)∧GrownB w w'∧∀k,k<w.heap.size→w'.heap[k]? = w.heap[k]? :=by have hu:=h (wG w) w vals (ZlL w) hG ⟨hv.1,fun i h1 h2=> .pure _ _ (hv.2 i h1 h2)⟩;rw[Zv hf]at hu;exact Calls.mono hu fun e w' ⟨v,e1,g',hp,_,k⟩=>⟨v,e1,⟨g',hp⟩,Zb5 k,fun i hi=>k.heap i hi (WL _ i)⟩
end
section
variable {P:Program} {H:Type} {enc:TypeId×Value→H} {w:World} {base:Nat} {spare:Nat→Bool} {held:Bool}
theorem ZkH {t e:TypeId} (ht:P.underlying t=some (.slice e)) (he:P.underlying e=some .string) (hs:P.cellsOf e=1) (l:List (List UInt8)) (h0:0<l.length) {fuel:Nat} {cs:List Value} {p:List MemPlace} (h:DataW.trod enc P w base spare held (fuel+1) t cs=some (.slice (l.map fun s=> .lit (.string s)) [],p)):Vl (wS w) [.sl .none 1 (l.map fun s=>[.str s])] cs:=by
 rcases DataW.trod_slice ht h with⟨rfl,hx⟩|⟨a,len,cap,elems,rest,m,hm,rfl,hx,hb,hl,hcap,hlen,hel, -, -⟩;{simp at hx}
 ·cases hm;simp only[Prod.mk.injEq,DataW.slice.injEq]at hx;obtain⟨⟨hx, -⟩, -⟩:=hx;have hle:l.length=elems.length:=by have:=congrArg List.length hx;simpa using this
  have hcell:∀i (hi:i<l.length),∃s:ByteArray,w.cell? (a.add i)=some (.string s)∧s.data.toList=l[i]:=fun i hi=>by
   have hy:=hel i (by omega)
   have hz:elems[i]? = some (elems[i]'(by omega)):=List.getElem?_eq_getElem (by omega)
   rw[hz,Option.bind_eq_some_iff]at hy
   obtain⟨cs',hc1,hc2⟩:=hy
   rw[hs]at hc1
   cases fuel with
   | zero=>simp[DataW.trod]at hc2
   | succ n =>
     obtain⟨s,rfl,he2, -⟩:=DataW.trod_string he hc2
     have:=(World.cells?_some hc1).2.2 0 (by omega)
     refine⟨s,?_,?_⟩
     · simpa[Addr.add] using this
     · have e1 : (l.map fun s => DataW.lit (H := H) (.string s))[i]? = some (.lit (.string l[i])) := by simp[hi]
       rw[hx,List.getElem?_map,hz]at e1
       simp only[Option.map_some,he2,Option.some.injEq,DataW.lit.injEq,Lit.string.injEq]at e1
       exact e1
  have hspot:a=⟨a.block,a.off,none⟩:=by
   obtain⟨s,h1, -⟩:=hcell 0 h0
   simp only[Addr.add,if_true]at h1
   obtain⟨ab,ao,asp⟩:=a
   cases asp with
   | none=>rfl
   | some z =>
     simp only[World.cell?]at h1
     split at h1
     · simp at h1
     · cases h1
  have hll:(l.map fun s=>[PV.str s]).length=len:=by simp;omega
  refine⟨rfl,fun k hi hj=>?_⟩;obtain rfl:k=0:=by simp at hi;omega
  simp only[List.getElem_cons_zero];have key:V0 (wS w) (.sl .none 1 (l.map fun s=>[.str s])) (.slice (some a) (l.map fun s=>[PV.str s]).length cap):=by refine .sl .none 1 _ a a.block a.off cap (fun i _=>(w.cell? (a.add i)).getD undef) (fun _=>hspot) (.inl rfl) (by omega) (fun i hi=>by simp) (fun i j hi hj=>?_) (fun i hi j hj=>?_);{(obtain rfl:j=0:=by omega);obtain⟨s,h1, -⟩:=hcell i (by simpa using hi);simp only[wS];(have e:a.add i=⟨a.block,a.off+i*1+0,none⟩:=by(have e0:∀A:Addr,A=⟨a.block,a.off,none⟩→A.add i=⟨a.block,a.off+i*1+0,none⟩:=fun A hA=>by rw[hA,ZV];simp);exact e0 a hspot);rw[← e,h1];rfl};{(obtain rfl:j=0:=by simp at hj;omega);obtain⟨s,h1,h2⟩:=hcell i (by simpa using hi);rw[h1];simp only[Option.getD_some,List.getElem_map,List.getElem_cons_zero];exact .str _ _ h2}
  rwa [hll]at key
end
section
variable {T:TypeId→Option TI}
theorem Znz {s l:TypeId} {li:TI} (hs:T s=some si) (ks:si.tk= .string) (zs:si.size=1) (hl:T l=some li) (kl:li.tk= .slice s) (h:Sh T l cs):∃b L,cs= [slV b 1 (ZD L)]∧L.length≤maxLen∧∀x,x∈L→x.length≤maxLen:=by
 cases h with
 |bool h' hk'=>rw[hl]at h';cases h';rw[kl]at hk';cases hk'
 |int h' hk'=>rw[hl]at h';cases h';rw[kl]at hk';cases hk'
 |str h' hk'=>rw[hl]at h';cases h';rw[kl]at hk';cases hk'
 |struct h' hk'=>rw[hl]at h';cases h';rw[kl]at hk';cases hk'
 |nils h' hk'=>exact⟨true,[],by rw[show ZD []= [] from rfl,Zi],Nat.zero_le _,fun _ h=>absurd h (by simp)⟩
 |sl h' hk' he hlen hel=>
  rw[hl]at h';cases h';rw[kl]at hk';cases hk';rw[hs]at he;cases he;obtain⟨L,hL,hok⟩:∃L:List ZY,_=ZD L∧∀x,x∈L→x.length≤maxLen:=by
   have:∀(el:List (List PV)),(∀c,c∈el→∃x:ZY,c= [.str x]∧x.length≤maxLen)→∃L:List ZY,el=ZD L∧∀x,x∈L→x.length≤maxLen:=by
    intro el
    induction el with
    | nil=>exact fun _=>⟨[],rfl,fun _ h=>absurd h (by simp)⟩
    | cons c r ih =>
      intro h
      obtain⟨x,rfl,hx⟩:=h c List.mem_cons_self
      obtain⟨L,rfl,hL⟩:=ih fun c hc=>h c (List.mem_cons_of_mem _ hc)
      exact⟨x::L,rfl,fun y hy=>by
       rcases List.mem_cons.1 hy with rfl|hy
       · exact hx
       · exact hL y hy⟩
   exact this _ fun c hc=>ZlY (hel c hc) hs ks
  refine⟨false,L,by rw[Z6, ← hL,zs],?_,hok⟩;rw[hL,ZC]at hlen;exact hlen
theorem ZoJ {i s sl t tl m ml:TypeId} {ii sli ti tli mi mli:TI} (hi:T i=some ii) (ki:ii.tk= .int .i64) (zi:ii.size=1) (hs:T s=some si) (ks:si.tk= .string) (zs:si.size=1) (hsl:T sl=some sli) (ksl:sli.tk= .slice s) (zsl:sli.size=1) (ht:T t=some ti) (kt:ti.tk= .struct [(0,i),(1,s),(2,i),(3,tl)]) (zt:ti.size=4) (htl:T tl=some tli) (ktl:tli.tk= .slice t) (ztl:tli.size=1) (hm:T m=some mi) (km:mi.tk= .struct [(0,i),(1,i),(2,i),(3,sl),(4,i),(5,tl)]) (zm:mi.size=6) (hml:T ml=some mli) (kml:mli.tk= .slice m) (h:Sh T ml cs):∃b L,cs= [slV b 6 (moC L)]∧∀x,x∈L→x.Ok:=by
 have one:∀c,Sh T m c→∃x:Mo,c=x.cells∧x.Ok:=fun c h=>by
  cases h with
  | bool h' hk'=>rw[hm]at h';cases h';rw[km]at hk';cases hk'
  | int h' hk'=>rw[hm]at h';cases h';rw[km]at hk';cases hk'
  | str h' hk'=>rw[hm]at h';cases h';rw[km]at hk';cases hk'
  | nils h' hk'=>rw[hm]at h';cases h';rw[km]at hk';cases hk'
  | sl h' hk'=>rw[hm]at h';cases h';rw[km]at hk';cases hk'
  | struct h' hk' hlen hf =>
    rw[hm]at h';cases h'
    rw[km]at hk';cases hk'
    rw[zm]at hlen
    obtain⟨a,b,c,d,e,f,rfl⟩:=Zvl hlen
    have q0:=hf 0 i ii (by simp) hi
    have q1:=hf 1 i ii (by simp) hi
    have q2:=hf 2 i ii (by simp) hi
    have q3:=hf 3 sl sli (by simp) hsl
    have q4:=hf 4 i ii (by simp) hi
    have q5:=hf 5 tl tli (by simp) htl
    rw[zi]at q0 q1 q2 q4
    rw[zsl]at q3
    rw[ztl]at q5
    obtain⟨n0,e0,w0⟩:=Zba q0 hi ki
    obtain⟨n1,e1,w1⟩:=Zba q1 hi ki
    obtain⟨n2,e2,w2⟩:=Zba q2 hi ki
    obtain⟨b3,l3,e3,w3,w3'⟩:=Znz hs ks zs hsl ksl q3
    obtain⟨n4,e4,w4⟩:=Zba q4 hi ki
    obtain⟨b5,l5,e5,w5,w5'⟩:=(ZsQ hi ki zi hs ks zs htl ktl ztl ht kt zt q5).2 rfl
    simp only[List.drop_zero,List.drop_succ_cons,List.take_succ_cons,List.take_zero,List.cons.injEq,and_true]at e0 e1 e2 e3 e4 e5
    subst e0 e1 e2 e3 e4 e5
    exact⟨⟨n0,n1,n2,b3,l3,n4,b5,l5⟩,rfl,⟨w0,w1,w2,w4,w3,w3',w5',w5⟩⟩
 cases h with
 |bool h' hk'=>rw[hml]at h';cases h';rw[kml]at hk';cases hk'
 |int h' hk'=>rw[hml]at h';cases h';rw[kml]at hk';cases hk'
 |str h' hk'=>rw[hml]at h';cases h';rw[kml]at hk';cases hk'
 |struct h' hk'=>rw[hml]at h';cases h';rw[kml]at hk';cases hk'
 |nils h' hk'=>exact⟨true,[],by rw[show moC []= [] from rfl,Zi],fun _ h=>absurd h (by simp)⟩
 |sl h' hk' he hlen hel=>
  rw[hml]at h';cases h';rw[kml]at hk';cases hk';rw[hm]at he;cases he;obtain⟨L,hL,hok⟩:∃L:List Mo,_=moC L∧∀x,x∈L→x.Ok:=by
   have:∀(el:List (List PV)),(∀c,c∈el→∃x:Mo,c=x.cells∧x.Ok)→∃L:List Mo,el=moC L∧∀x,x∈L→x.Ok:=by
    intro el
    induction el with
    | nil=>exact fun _=>⟨[],rfl,fun _ h=>absurd h (by simp)⟩
    | cons c r ih =>
      intro h
      obtain⟨x,rfl,hx⟩:=h c List.mem_cons_self
      obtain⟨L,rfl,hL⟩:=ih fun c hc=>h c (List.mem_cons_of_mem _ hc)
      exact⟨x::L,rfl,fun y hy=>by
       rcases List.mem_cons.1 hy with rfl|hy
       · exact hx
       · exact hL y hy⟩
   exact this _ fun c hc=>one c (hel c hc)
  exact⟨false,L,by rw[Z6, ← hL,zm],hok⟩
end
