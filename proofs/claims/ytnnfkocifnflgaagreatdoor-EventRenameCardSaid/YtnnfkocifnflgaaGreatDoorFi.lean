/-
  What the listed variables hold; the call of a statement's function where the cod
-/
import Derived.Test.YtnnfkocifnflgaaGreatDoorFh
import Derived.Shelf.SlSortCmp.WholeK
import Derived.Lib.ItoaMem
import Derived.LaidByTextLater
namespace Go.Vm
variable {a a' b b' e t x:Tm} {kz ks l m:List Tm} {f f':Bool} {nm:Bs} {d es i ix j k k0 n0:Nat} {s:Int} {p q:PV} {all r:List Oper} {L bx:List Box} {g g2:Gh} {el el':List (List PV)} {v:Value} {args ax cs:List PV} {ty:TypeId} {pos:String} {aft:Array Edge} {grd:Option (Nat×Bool)} {H1:Heap} {ps:Array (Nat×Operand)} {fn:Func}
mutual
theorem Vg:∀ a b:Tm,a.cl.cmp b.cl=a.cmp b
 | .mk k nm s n l, .mk k' nm' s' n' l' => by
   simp only [Tm.cl,Tm.cmp,Vq,W0,ZdN l l']
theorem ZdN:∀ l l':List Tm,WR (clL l) (clL l')=WR l l'
 | [],l'=>by cases l'<;>rfl
 |a::r,[]=>rfl
 | a :: r, b :: r' => by
   simp only [clL,WR,Vg a b,ZdN r r']
end
theorem Zdd (h:a.cl=a'.cl) (h':b.cl=b'.cl):a.cmp b=a'.cmp b':=by rw [← Vg a b,h,h',Vg]
theorem VJ:∀ a b:List Tm,(ZZ a b).map Tm.cl=ZZ (a.map Tm.cl) (b.map Tm.cl)
 | [],b=>by simp only [ZZ,List.map_nil]
 |x::a,[]=>by simp only [ZZ,List.map_cons,List.map_nil]
 | x :: a, y :: b => by
   have h1:=VJ a (y::b)
   have h2:=VJ (x::a) b
   have h3:=VJ a b
   simp only [List.map_cons] at h1 h2 ⊢
   rw [ZZ,ZZ,Vg]
   split
   · rw [List.map_cons,h1]
   · split
     · rw [List.map_cons,h2]
     · rw [h3]
termination_by a b=>a.length+b.length
theorem Zjm:clL l= []↔l= []:=by cases l<;>simp [clL]
mutual
theorem Zkh:∀ t:Tm,t.cl.sumP=t.sumP.map Tm.cl
 | .mk k nm s b kz => by
   simp only [Tm.cl]
   rw [Tm.sumP,Tm.sumP]
   simp only [Zjm]
   split
   · rfl
   · split
     · exact Zas kz []
     · rfl
theorem Zas:∀ (l o:List Tm),ZI (clL l) (o.map Tm.cl)=(ZI l o).map Tm.cl
 | [],o=>by simp only [clL,ZI]
 | t :: r, o => by
   simp only [clL,ZI]
   rw [Zkh t, ← VJ]
   exact Zas r _
end
def Zcm (m:Bool) (l:List Tm):List Tm:=if m=true then clL l else l
theorem Zd0 (m:Bool) (l:List Tm):(Zcm m l).length=l.length:=by
 cases m
 · rfl
 · exact W0 l
def sumT (f:Bool):List Tm→Tm
 | []=> .mk 3 WE 0 f []
 | [x]=>x
 |x::y::r=> .mk 3 Q1 0 false (x::y::r)
theorem ZjU (f f':Bool) (l:List Tm):(sumT f (clL l)).cl=(sumT f' l).cl:=by
 match l with
 | []=>rfl
 | [x]=>simp only [clL,sumT,Zg4]
 |x::y::r=>simp only [clL,sumT,Tm.cl,Zg4,Zgp]
def Y3:List Tm→Int
 | []=>0
 |t::r=>if t.valid≠0 then t.valid else Y3 r
def sumG (m:Bool) (l:List Tm):Tm×Int:=
 if 200<l.length then (.zero,3) else if Y3 l≠0 then (.zero,Y3 l) else if (sumT m (Zcm m (ZI l []))).valid≠0 then (.zero,3) else (sumT m (Zcm m (ZI l [])),0)
theorem Zbk:∀ {l m:List Tm},l.map Tm.cl=m.map Tm.cl→Y3 l=Y3 m
 | [],[],_=>rfl
 | [],_::_,h=>by simp at h
 |_::_,[],h=>by simp at h
 | a :: r, b :: q, h => by
   simp only [List.map_cons,List.cons.injEq] at h
   simp only [Y3,Xt h.1,Zbk h.2]
theorem Zjp (h:l.map Tm.cl=m.map Tm.cl):(sumG true l).2=(sumG false m).2∧(sumG true l).1.cl=(sumG false m).1.cl:=by
 have hn:l.length=m.length:=by simpa using congrArg List.length h
 have hs:(ZI l []).map Tm.cl=(ZI m []).map Tm.cl:=by
  have a:=Zas l []
  have b:=Zas m []
  rw [List.map_nil] at a b
  rw [← a, ← b,Xh,Xh,h]
 have ht:(sumT true (Zcm true (ZI l []))).cl=(sumT false (Zcm false (ZI m []))).cl:=by
  show (sumT true (clL (ZI l []))).cl=(sumT false (ZI m [])).cl
  rw [Xh,hs, ← Xh]
  exact ZjU _ _ _
 unfold sumG
 rw [hn,Zbk h,Xt ht]
 split; · exact ⟨rfl,rfl⟩
 split; · exact ⟨rfl,rfl⟩
 split; · exact ⟨rfl,rfl⟩
 exact ⟨rfl,ht⟩
def clP (x:Pw):Pw:=(x.1.cl,x.2)
theorem Zav:∀ (l:List Pw) (t:Tm) (n:Int),(Wh l t n).map clP=Wh (l.map clP) t.cl n
 | [],t,n=>rfl
 | x :: r, t, n => by
   simp only [Wh,List.map_cons]
   have e1:(clP x).1.cmp t.cl=x.1.cmp t:=Vg _ _
   have e2:t.cl.cmp (clP x).1=t.cmp x.1:=Vg _ _
   have e3:(clP x).2=x.2:=rfl
   rw [e1,e2,e3]
   split
   · simp only [List.map_cons,Zav r t n]
   · split
     · rfl
     · split<;>rfl
mutual
theorem ZiR:∀ (t:Tm) (n:Int) (l:List Pw),t.cl.col n (l.map clP)=(t.col n l).map (List.map clP)
 | .mk k nm s b kz, n, l => by
   simp only [Tm.cl,Tm.col,W0]
   split
   · split
     · exact ZgG kz _ l
     · rfl
   · simp only [Option.map_some]
     rw [Zav]
     rfl
theorem ZgG:∀ (ts:List Tm) (n:Int) (l:List Pw),colL (clL ts) n (l.map clP)=(colL ts n l).map (List.map clP)
 | [],n,l=>by simp only [clL,colL,Option.map_some]
 | t :: r, n, l => by
   simp only [clL,colL,ZiR t n l]
   cases t.col n l with
   | none=>rfl
   | some l'=>exact ZgG r n l'
end
def Tm.sym:Tm→Bool
 | .mk k nm _ _ _=>Zau k nm
def Z4 (n m:Int):Bool:=decide (n< -m)||decide (m<n)
def VW (p:Option Tm) (t:Tm):Bool:=match p with
 |none=>false
 |some q=>decide (0≤q.cmp t)
def pvL:Option Tm→List Pw→Int
 |_,[]=>0
 |p,x::r=>if x.1.valid≠0 then x.1.valid else if x.1.sym=true then 1 else if (decide (x.2=0)||Z4 x.2 1000)=true then 7 else if VW p x.1=true then 5 else pvL (some x.1) r
def pvG (l:List Pw):Int:=if 200<l.length then 3 else pvL none l
theorem ZgW:∀ (p:Option Tm) (l:List Pw),pvL p l=0→(∀ x,x∈l→x.2≠0∧x.1.valid=0∧x.1.sym=false∧VW p x.1=false)∧W3 l
 |p,[],_=>⟨fun x hx=>absurd hx (by simp),trivial⟩
 | p, x :: r, h => by
   simp only [pvL] at h
   split at h
   · rename_i h1;exact absurd h h1
   rename_i h1
   split at h
   · exact absurd h (by decide)
   rename_i h2
   split at h
   · exact absurd h (by decide)
   rename_i h3
   split at h
   · exact absurd h (by decide)
   rename_i h4
   obtain ⟨a,b⟩:=ZgW (some x.1) r h
   have hx2:x.2≠0:=by
    intro e
    simp [e] at h3
   have hlt:∀ y,y∈r→x.1.cmp y.1<0:=fun y hy=>by
    have:=(a y hy).2.2.2
    simp only [VW,decide_eq_false_iff_not] at this
    omega
   refine ⟨fun y hy=>?_,⟨hx2,hlt⟩,b⟩
   rcases List.mem_cons.1 hy with rfl|hy
   · exact ⟨hx2,Classical.not_not.1 h1,by simpa using h2,by simpa using h4⟩
   · refine ⟨(a y hy).1, (a y hy).2.1, (a y hy).2.2.1, ?_⟩
     cases p with
     | none=>rfl
     | some q =>
       simp only [VW,decide_eq_true_eq,decide_eq_false_iff_not] at h4 ⊢
       have:=Xy (a:=q) (b:=x.1) (c:=y.1) (by omega) (Int.le_of_lt (hlt y hy))
       omega
theorem V6 {l:List Pw} (h:pvG l=0):W3 l∧∀ x,x∈l→x.2≠0:=by
 unfold pvG at h
 split at h
 · exact absurd h (by decide)
 obtain ⟨a,b⟩:=ZgW none l h
 exact ⟨b,fun x hx=>(a x hx).1⟩
theorem ZkI (t:Tm):t.cl.sym=t.sym:=by cases t;rfl
theorem ZiQ:∀ (p:Option Tm) (l:List Pw),pvL (p.map Tm.cl) (l.map clP)=pvL p l
 |p,[]=>rfl
 | p, x :: r => by
   have e:VW (p.map Tm.cl) x.1.cl=VW p x.1:=by cases p<;>simp [VW,Vg]
   have ih:=ZiQ (some x.1) r
   simp only [Option.map_some] at ih
   simp only [List.map_cons,clP,pvL,UK,ZkI,e]
   rw [ih]
theorem Zdl (l:List Pw):pvG (l.map clP)=pvG l:=by
 unfold pvG
 rw [List.length_map]
 exact congrArg _ (ZiQ none l)
def ofG (t:Tm):List Pw×Int:=if t.valid≠0 then ([],t.valid) else match t.col 1 [] with
 |none=>([],6)
 |some l=>if 200<l.length then ([],3) else (l,0)
def ofR (t:Tm):List Pw×Int:=if t.valid≠0 then ([],t.valid) else if t.ari=false then ([],6) else if 200<(t.colR 1 []).length then ([],3) else (t.colR 1 [],0)
theorem ZaX (t:Tm):ofG t=ofR t:=by
 obtain ⟨h1,h2⟩:=UE t 1 [] trivial (by decide)
 unfold ofG ofR
 cases ha:t.ari with
 |true=>rw [(h1 ha).1,if_neg (by decide:¬ (true=false))]
 |false=>rw [h2 ha,if_pos rfl]
theorem ZkJ (t:Tm):ofG t.cl=((ofG t).1.map clP,(ofG t).2):=by
 have h:=ZiR t 1 []
 rw [List.map_nil] at h
 unfold ofG
 rw [UK,h]
 split
 · rfl
 · cases t.col 1 [] with
   | none=>rfl
   | some l =>
     simp only [Option.map_some,List.length_map]
     split<;>rfl
def insF (l:List Pw) (b:List Pw):List Pw:=b.foldl (fun l x=>Wh l x.1 x.2) l
def QQ (l:List Pw) (b:List Pw):List Pw:=b.foldl (fun l x=>Zg7 l x.1 x.2) l
theorem Zan:∀ (b l:List Pw),W3 l→(∀ x,x∈b→x.2≠0)→QQ l b=insF l b
 | [],l,_,_=>rfl
 | x :: r, l, h, hb => by
   simp only [QQ,insF,List.foldl_cons]
   rw [UP l _ _ h]
   exact Zan r _ (US h (hb x List.mem_cons_self)) fun y hy=>hb y (List.mem_cons_of_mem _ hy)
theorem Zdz:∀ (b l:List Pw),(insF l b).map clP=insF (l.map clP) (b.map clP)
 | [],l=>rfl
 | x :: r, l => by
   simp only [insF,List.foldl_cons,List.map_cons]
   have:=Zdz r (Wh l x.1 x.2)
   rw [Zav] at this
   exact this
def ZeQ (l:List Pw):List Pw×Int:=if l.any (fun x=>Z4 x.2 1000)=true then ([],7) else if 200<l.length then ([],3) else (l,0)
theorem Zjc (l:List Pw):ZeQ (l.map clP)=((ZeQ l).1.map clP,(ZeQ l).2):=by
 have e:(l.map clP).any (fun x=>Z4 x.2 1000)=l.any (fun x=>Z4 x.2 1000):=by
  rw [List.any_map];rfl
 unfold ZeQ
 rw [e,List.length_map]
 split
 · rfl
 · split<;>rfl
def Zis (f:List Pw→List Pw→List Pw) (a b:List Pw):List Pw×Int:=if pvG a≠0 then ([],pvG a) else if pvG b≠0 then ([],pvG b) else ZeQ (f a b)
def Vd:List Pw→List Pw→List Pw×Int:=Zis insF
def Zbd:List Pw→List Pw→List Pw×Int:=Zis QQ
theorem Zep (a b:List Pw):Vd a b=Zbd a b:=by
 unfold Vd Zbd Zis
 by_cases h:pvG a=0
 · by_cases h' : pvG b = 0
   · rw [Zan b a (V6 h).1 (V6 h').2]
   · rw [if_neg (not_not_intro h),if_neg (not_not_intro h),if_pos h',if_pos h']
 · rw [if_pos h,if_pos h]
theorem ZiD (a b:List Pw):Vd (a.map clP) (b.map clP)=((Vd a b).1.map clP,(Vd a b).2):=by
 unfold Vd Zis
 rw [Zdl,Zdl, ← Zdz,Zjc]
 split
 · rfl
 · split<;>rfl
def Zdi (x:Tm):Tm:= .mk 3 WJ 0 false [x]
def Uy (l:List Pw):List Tm:=l.flatMap fun x=>List.replicate x.2.toNat x.1
def QV (l:List Pw):List Tm:=l.flatMap fun x=>List.replicate (-x.2).toNat (Zdi x.1)
def Wj (l:List Pw):List Tm:=Uy l++QV l
def prodT (f:Bool):List Tm→Tm
 | []=> .mk 3 Vn 0 f []
 | [x]=>x
 |x::y::r=> .mk 3 W7 0 false (x::y::r)
def ZhQ (f:Bool) (l:List Pw):Tm×Int:=if 8<(Wj l).length then (.zero,3) else if (prodT f (Wj l)).valid≠0 then (.zero,(prodT f (Wj l)).valid) else (prodT f (Wj l),0)
def termG (f:Bool) (l:List Pw):Tm×Int:=if pvG l≠0 then (.zero,pvG l) else ZhQ f l
def XG (f:Bool) (l:List Pw):Tm×Int:=if pvG l≠0 then (.zero,pvG l) else if l.any (fun x=>Z4 x.2 8)=true then (.zero,3) else ZhQ f l
def XI (f:Bool) (l:List Pw):Tm×Int:=if pvG l≠0 then (.zero,pvG l) else if 8<((Wj l).take 9).length then (.zero,3) else if (prodT f ((Wj l).take 9)).valid≠0 then (.zero,(prodT f ((Wj l).take 9)).valid) else (prodT f ((Wj l).take 9),0)
theorem Za6 {α β:Type} {f:α→List β} {x:α}:∀ {l:List α},x∈l→(f x).length≤(l.flatMap f).length
 | y :: r, h => by
   rw [List.flatMap_cons,List.length_append]
   rcases List.mem_cons.1 h with rfl|h
   · omega
   · have := Za6 (f := f) h
     omega
theorem ZgP (f:Bool) (l:List Pw):XG f l=termG f l:=by
 unfold XG termG
 by_cases h:l.any (fun x=>Z4 x.2 8)=true
 · obtain ⟨x, hx, ho⟩ := List.any_eq_true.1 h
   have h9:8<(Wj l).length:=by
    have h1:=Za6 (f:=fun x:Pw=>List.replicate x.2.toNat x.1) hx
    have h2:=Za6 (f:=fun x:Pw=>List.replicate (-x.2).toNat (Zdi x.1)) hx
    simp only [List.length_replicate] at h1 h2
    simp only [Z4,Bool.or_eq_true,decide_eq_true_eq] at ho
    simp only [Wj,Uy,QV,List.length_append]
    omega
   rw [if_pos h]
   unfold ZhQ
   rw [if_pos h9]
 · rw [if_neg h]
theorem Zgi (f:Bool) (l:List Pw):XI f l=termG f l:=by
 unfold XI termG ZhQ
 by_cases h:8<(Wj l).length
 · have h9 : 8 < ((Wj l).take 9).length := by rw [List.length_take]; omega
   rw [if_pos h,if_pos h9]
 · rw [List.take_of_length_le (by omega)]
theorem ZiG (n:Nat) (x:Tm):(List.replicate n x).map Tm.cl=List.replicate n x.cl:=List.map_replicate
theorem Zjb (l:List Pw):Uy (l.map clP)=(Uy l).map Tm.cl:=by
 simp only [Uy,List.flatMap_map,List.map_flatMap,ZiG,clP]
theorem ZjE (l:List Pw):(QV (l.map clP)).map Tm.cl=(QV l).map Tm.cl:=by
 simp only [QV,List.flatMap_map,List.map_flatMap,ZiG,clP,Zdi,Tm.cl,clL,Zg4]
theorem Zg1 (l:List Pw):(Wj (l.map clP)).map Tm.cl=(Wj l).map Tm.cl:=by
 simp only [Wj,List.map_append,Zjb,ZjE,List.map_map]
 congr 1
 exact List.map_congr_left fun x _=>Zg4 x
theorem Zif (h:l.map Tm.cl=m.map Tm.cl):(prodT f l).cl=(prodT f' m).cl:=by
 match l,m,h with
 | [],[],_=>rfl
 | [],_::_,h=>simp at h
 |_::_,[],h=>simp at h
 | [x],[y],h=>simpa [prodT] using h
 | [x],_::_::_,h=>simp at h
 |_::_::_,[x],h=>simp at h
 | x :: y :: r, x' :: y' :: r', h =>
   simp only [prodT,Tm.cl,Xh,h]
theorem Zdj {l m:List Pw} (h:l.map clP=m.map clP):(termG f l).2=(termG f' m).2∧(termG f l).1.cl=(termG f' m).1.cl:=by
 have e1:pvG l=pvG m:=by rw [← Zdl l,h,Zdl]
 have e2:(Wj l).map Tm.cl=(Wj m).map Tm.cl:=by rw [← Zg1 l,h,Zg1]
 have e3:(Wj l).length=(Wj m).length:=by simpa using congrArg List.length e2
 have e4:=Zif (f:=f) (f':=f') e2
 unfold termG ZhQ
 rw [e1,e3,Xt e4]
 split; · exact ⟨rfl,rfl⟩
 split; · exact ⟨rfl,rfl⟩
 split; · exact ⟨rfl,rfl⟩
 exact ⟨rfl,e4⟩
def Tm.kd:Tm→Nat→Tm
 | .mk _ _ _ _ kz,i=>kz.getD i .zero
def isA:Tm→Bs→Bool
 | .mk k n _ _ _,nm=>decide (k=3)&&(n==nm)
theorem VH (l:List Tm) (i:Nat):(l.map Tm.cl).getD i .zero=(l.getD i .zero).cl:=by
 simp only [List.getD_eq_getElem?_getD,List.getElem?_map]
 cases l[i]? <;> rfl
theorem Zlc (t:Tm) (i:Nat):t.cl.kd i=(t.kd i).cl:=by
 cases t
 simp only [Tm.cl,Tm.kd,Xh,VH]
theorem ZiB (t:Tm) (nm:Bs):isA t.cl nm=isA t nm:=by cases t;rfl
theorem Uw (h:a.cl=b.cl) (i:Nat):(a.kd i).cl=(b.kd i).cl:=by rw [← Zlc,h,Zlc]
theorem Ut (h:a.cl=b.cl) (nm:Bs):isA a nm=isA b nm:=by rw [← ZiB,h,ZiB]
def Vb:Bs:=[102,115,116]
def WZ:Bs:=[115,110,100]
def WV:Bs:=[100,101,99]
def Yu:Bs:=[97,100,101,99]
def Ys:Bs:=[111,112,101,110]
def YI:Bs:=[114,101,97,100]
def ZcE:Bs:=[101,110,99]
def WU:Bs:=[97,101,110,99]
def pkN:Bs:=[112,107]
def Yx:Bs:=[101,120,112]
def Zcn (nm:Bs) (a key:Tm):Bool:=
 ((nm==Vb)&&isA a Xf)||((nm==WZ)&&isA a Xf)||((nm==WV)&&isA a ZcE&&decide ((a.kd 1).cmp key=0)) ||
 ((nm==Yu)&&isA a WU&&isA (a.kd 1) pkN&&decide (((a.kd 1).kd 0).cmp key=0)) ||
 ((nm==Ys)&&isA a Y4&&isA key pkN&&decide ((a.kd 1).cmp (key.kd 0)=0))||((nm==YI)&&isA a Y4)
def Zk5 (nm:Bs) (a key:Tm):Bool:=
 ((nm==Vb)&&isA a Xf)||((nm==WZ)&&isA a Xf)||((nm==WV)&&isA a ZcE&&decide ((a.kd 1).cmp key=0)) ||
 ((nm==Yu)&&isA a WU&&decide ((a.kd 1).cmp (.mk 3 pkN 0 true [key])=0)) ||
 ((nm==Ys)&&isA a Y4&&decide (key.cmp (.mk 3 pkN 0 true [a.kd 1])=0))||((nm==YI)&&isA a Y4)
def Zbf (f:Bs→Tm→Tm→Bool) (t:Tm):Tm:=if f t.nm (t.kd 0) (t.kd 1)=true then (t.kd 0).kd (if t.nm=WZ then 1 else 0) else t
def Xc:Tm→Tm:=Zbf Zcn
theorem Zm4 (h:a.cl=b.cl):a.nm=b.nm:=by rw [← Zky,h,Zky]
theorem Zi3 {k k':Tm} (h:a.cl=a'.cl) (hk:k.cl=k'.cl):Zcn nm a k=Zcn nm a' k':=by
 unfold Zcn
 rw [Ut h,Ut h,Ut h,Ut h,Ut (Uw h 1),Ut hk,Zdd (Uw h 1) hk,Zdd (Uw (Uw h 1) 0) hk,Zdd (Uw h 1) (Uw hk 0)]
theorem Zlv (h:a.cl=b.cl):(Xc a).cl=(Xc b).cl:=by
 unfold Xc Zbf
 rw [Zi3 (Uw h 0) (Uw h 1),Zm4 h]
 split
 · exact Uw (Uw h 0) _
 · exact h
def ZjD (nm:Bs) (n:Nat):Bool:=(if (nm==Xf)||(nm==ZcE)||(nm==WU)||(nm==Y4)||(nm==Yx) then decide (n=2) else true)&&(if nm==pkN then decide (n=1) else true)
mutual
def Tm.okA:Tm→Bool
 | .mk k nm s _ kz=>(if k=3 then decide (s=0)&&ZjD nm kz.length else true)&&ZeS kz
def ZeS:List Tm→Bool
 | []=>true
 |t::r=>t.okA&&ZeS r
end
theorem Za5:∀ l:List Tm,ZeS l=true↔∀ x,x∈l→x.okA=true
 | []=>by simp [ZeS]
 |t::r=>by simp [ZeS,Za5 r]
theorem VC {k:Int} {b:Bool} (h:(Tm.mk k nm s b kz).okA=true):∀ x,x∈kz→x.okA=true:=by
 simp only [Tm.okA,Bool.and_eq_true] at h
 exact (Za5 kz).1 h.2
theorem Zhj (h:∀ x,x∈l→x.okA=true) (i:Nat):(l.getD i .zero).okA=true:=by
 rw [List.getD_eq_getElem?_getD]
 cases e:l[i]? with
 |none=>rfl
 |some x=>exact h x (List.mem_of_getElem? e)
theorem Ze6 (h:t.okA=true) (i:Nat):(t.kd i).okA=true:=by
 cases t
 exact Zhj (VC h) i
theorem ZfM (h:t.okA=true) (hp:isA t pkN=true):∃ b x,t= .mk 3 pkN 0 b [x]:=by
 obtain ⟨k,nm,s,b,kz⟩:=t
 simp only [isA,Bool.and_eq_true,decide_eq_true_eq,beq_iff_eq] at hp
 obtain ⟨rfl,rfl⟩:=hp
 simp only [Tm.okA,if_pos,Bool.and_eq_true,decide_eq_true_eq] at h
 obtain ⟨⟨rfl,h1⟩,_⟩:=h
 have h2:kz.length=1:=by
  simp only [ZjD,Bool.and_eq_true] at h1
  have:=h1.2
  simpa using this
 match kz,h2 with
 | [x],_=>exact ⟨b,x,rfl⟩
theorem ZiU (h:a.okA=true):decide (a.cmp (.mk 3 pkN 0 true [x])=0)=(isA a pkN&&decide ((a.kd 0).cmp x=0)):=by
 by_cases hp:isA a pkN=true
 · obtain ⟨b, y, rfl⟩ := ZfM h hp
   rw [hp,Bool.true_and]
   refine decide_eq_decide.2 ?_
   rw [Vl,Vl]
   simp only [Tm.cl,clL,Tm.kd,List.getD_cons_zero,Tm.mk.injEq,List.cons.injEq,and_true,true_and]
 · rw [Bool.eq_false_iff.2 hp, Bool.false_and, decide_eq_false_iff_not]
   intro e
   rw [Vl] at e
   exact hp (by rw [Ut e];rfl)
theorem ZhL {key:Tm} (ha:a.okA=true) (hk:key.okA=true):Zk5 nm a key=Zcn nm a key:=by
 have e1:=ZiU (x:=key) (Ze6 ha 1)
 have e2:=ZiU (x:=a.kd 1) hk
 have e3:decide ((key.kd 0).cmp (a.kd 1)=0)=decide ((a.kd 1).cmp (key.kd 0)=0):=decide_eq_decide.2 ZhN
 unfold Zk5 Zcn
 rw [e1,e2,e3]
 simp only [Bool.and_assoc]
theorem Zed (h:t.okA=true):Zbf Zk5 t=Xc t:=by
 unfold Xc Zbf
 rw [ZhL (Ze6 h 0) (Ze6 h 1)]
def Qs (f:Bool) (t:Tm):Tm×Int:=if (ofG t).2≠0 then (.zero,(ofG t).2) else termG f (ofG t).1
def UX (f:Bool) (b:Tm) (p:List Pw):Tm×Int:=if p.isEmpty=true then (b,0) else if (termG f p).2≠0 then (.zero,(termG f p).2) else (.mk 3 Yx 0 f [b,(termG f p).1],0)
def X2 (f:Bool) (b e:Tm):Tm×Int:=if (ofG e).2≠0 then (.zero,(ofG e).2) else if isA b Yx=true then (if (ofG (b.kd 1)).2≠0 then (.zero,(ofG (b.kd 1)).2) else if (Vd (ofG (b.kd 1)).1 (ofG e).1).2≠0 then (.zero,(Vd (ofG (b.kd 1)).1 (ofG e).1).2) else UX f (b.kd 0) (Vd (ofG (b.kd 1)).1 (ofG e).1).1) else UX f b (ofG e).1
theorem Zjv (h:a.cl=b.cl):(ofG a).2=(ofG b).2∧(ofG a).1.map clP=(ofG b).1.map clP:=by
 have h1:=ZkJ a
 have h2:=ZkJ b
 rw [h,h2] at h1
 injection h1 with e1 e2
 exact ⟨e2.symm,e1.symm⟩
theorem Zko {a b a' b':List Pw} (h:a.map clP=a'.map clP) (h':b.map clP=b'.map clP):(Vd a b).2=(Vd a' b').2∧(Vd a b).1.map clP=(Vd a' b').1.map clP:=by
 have h1:=ZiD a b
 have h2:=ZiD a' b'
 rw [h,h',h2] at h1
 injection h1 with e1 e2
 exact ⟨e2.symm,e1.symm⟩
theorem Zls (h:a.cl=b.cl):(Qs f a).2=(Qs f' b).2∧(Qs f a).1.cl=(Qs f' b).1.cl:=by
 obtain ⟨e1,e2⟩:=Zjv h
 unfold Qs
 rw [e1]
 split
 · exact ⟨rfl,rfl⟩
 · exact Zdj e2
theorem ZiX {p p':List Pw} (h:b.cl=b'.cl) (hp:p.map clP=p'.map clP):(UX f b p).2=(UX f' b' p').2∧(UX f b p).1.cl=(UX f' b' p').1.cl:=by
 obtain ⟨e1,e2⟩:=Zdj (f:=f) (f':=f') hp
 have e3:p.isEmpty=p'.isEmpty:=by cases p<;>cases p'<;>simp_all
 unfold UX
 rw [e1,e3]
 split; · exact ⟨rfl,h⟩
 split; · exact ⟨rfl,rfl⟩
 exact ⟨rfl,by simp only [Tm.cl,clL,h,e2]⟩
theorem Zlr {e':Tm} (h:b.cl=b'.cl) (he:e.cl=e'.cl):(X2 f b e).2=(X2 f' b' e').2∧(X2 f b e).1.cl=(X2 f' b' e').1.cl:=by
 obtain ⟨e1,e2⟩:=Zjv he
 obtain ⟨e3,e4⟩:=Zjv (Uw h 1)
 obtain ⟨e5,e6⟩:=Zko e4 e2
 unfold X2
 rw [e1,Ut h,e3,e5]
 split; · exact ⟨rfl,rfl⟩
 split
 · split; · exact ⟨rfl, rfl⟩
   split; · exact ⟨rfl,rfl⟩
   exact ZiX (Uw h 0) e6
 · exact ZiX h e2
def YC (m:Bool) (nm:Bs) (ks:List Tm):Tm×Int:=
 if (YG nm).kind=3 then (Xc (.mk 3 nm 0 m ks),0) else if nm=Q1 then sumG m ks else if Zau 3 nm=true then Qs m (.mk 3 nm 0 m ks) else if nm=Yx then X2 m (ks.getD 0 .zero) (ks.getD 1 .zero) else (.mk 3 nm 0 m ks,0)
mutual
def Tm.nrm (c:Bool):Tm→Tm×Int
 | .mk k nm s b kz=>if k≠3 then (.mk k nm s b kz,0) else if (nrmL c kz).2≠0 then (.zero,(nrmL c kz).2) else YC c nm (nrmL c kz).1
def nrmL (c:Bool):List Tm→List Tm×Int
 | []=>([],0)
 |t::r=>if (t.nrm c).2≠0 then ([],(t.nrm c).2) else if (nrmL c r).2≠0 then ([],(nrmL c r).2) else ((t.nrm c).1::(nrmL c r).1,0)
end
theorem Zjr (h:l.map Tm.cl=m.map Tm.cl):(YC true nm l).2=(YC false nm m).2∧(YC true nm l).1.cl=(YC false nm m).1.cl:=by
 have ht:(Tm.mk 3 nm 0 true l).cl=(Tm.mk 3 nm 0 false m).cl:=by simp only [Tm.cl,Xh,h]
 unfold YC
 split; · exact ⟨rfl,Zlv ht⟩
 split; · exact Zjp h
 split; · exact Zls ht
 split
 · exact Zlr (by rw [← VH,h,VH]) (by rw [← VH,h,VH])
 · exact ⟨rfl,ht⟩
mutual
theorem Zeo:∀ t u:Tm,t.cl=u.cl→(t.nrm true).2=(u.nrm false).2∧(t.nrm true).1.cl=(u.nrm false).1.cl
 | .mk k nm s b kz, .mk k' nm' s' b' kz', h => by
   have h0:=h
   simp only [Tm.cl,Tm.mk.injEq] at h
   obtain ⟨rfl,rfl,rfl, -,hk⟩:=h
   obtain ⟨e1,e2⟩:=ZbQ kz kz' hk
   simp only [Tm.nrm]
   rw [e1]
   split; · exact ⟨rfl,h0⟩
   split; · exact ⟨rfl,rfl⟩
   exact Zjr e2
theorem ZbQ:∀ l m:List Tm,clL l=clL m→(nrmL true l).2=(nrmL false m).2∧(nrmL true l).1.map Tm.cl=(nrmL false m).1.map Tm.cl
 | [],[],_=>⟨rfl,rfl⟩
 | [],_::_,h=>by simp [clL] at h
 |_::_,[],h=>by simp [clL] at h
 | t :: r, u :: q, h => by
   simp only [clL,List.cons.injEq] at h
   obtain ⟨a1,a2⟩:=Zeo t u h.1
   obtain ⟨b1,b2⟩:=ZbQ r q h.2
   simp only [nrmL]
   rw [a1,b1]
   split; · exact ⟨rfl,rfl⟩
   split; · exact ⟨rfl,rfl⟩
   exact ⟨rfl,by simp only [List.map_cons,a2,b2]⟩
end
def Tm.nf (c:Bool) (t:Tm):Tm×Int:=if t.valid≠0 then (.zero,t.valid) else if t.th≠0 then (.zero,t.th) else if (t.nrm c).2≠0 then (.zero,(t.nrm c).2) else if (t.nrm c).1.valid≠0 then (.zero,(t.nrm c).1.valid) else ((t.nrm c).1,0)
mutual
theorem Zjz:∀ t:Tm,t.cl.th=t.th
 | .mk k nm s b kz => by
   have e:Uz nm (clL kz)=Uz nm kz:=by
    unfold Uz
    split
    · cases kz with
      | nil=>rfl
      | cons a r=>cases a;rfl
    · rw [Xh, List.all_map]
      congr 1
      funext x
      cases x;rfl
   simp only [Tm.cl,Tm.th,W0,e,Zip kz]
theorem Zip:∀ l:List Tm,thL (clL l)=thL l
 | []=>rfl
 |t::r=>by simp only [clL,thL,Zjz t,Zip r]
end
theorem Zjd {u:Tm} (h:t.cl=u.cl):(t.nf true).2=(u.nf false).2∧(t.nf true).1.cl=(u.nf false).1.cl:=by
 obtain ⟨e1,e2⟩:=Zeo t u h
 have e3:t.th=u.th:=by rw [← Zjz,h,Zjz]
 unfold Tm.nf
 rw [Xt h,e3,e1,Xt e2]
 split; · exact ⟨rfl,rfl⟩
 split; · exact ⟨rfl,rfl⟩
 split; · exact ⟨rfl,rfl⟩
 split; · exact ⟨rfl,rfl⟩
 exact ⟨rfl,e2⟩
structure Kin (P:Tm→Prop):Prop where
 kid:∀ {k:Int} {nm:Bs} {s:Int} {b:Bool} {kz:List Tm},P (.mk k nm s b kz)→∀ x,x∈kz→P x
 app:∀ {nm:Bs} {b:Bool} {ks:List Tm},nm.length≤24→ks.length≤1000000→ZjD nm ks.length=true→(∀ x,x∈ks→P x)→P (.mk 3 nm 0 b ks)
 zero:P .zero
 cl:∀ {t:Tm},P t→P t.cl
theorem Zl0 (h:t.Ok):t.cl.Ok:=by
 induction h with
 | mk hk hs hn hl _ ih =>
   simp only [Tm.cl,Xh]
   refine .mk hk hs hn (by rw [List.length_map];exact hl) fun t ht=>?_
   obtain ⟨x,hx,rfl⟩:=List.mem_map.1 ht
   exact ih x hx
theorem cls_ok:Kin Tm.Ok where
 kid h x hx:=h.kid hx
 app hn hl _ h:= .mk (by decide) (by decide) (Nat.le_trans hn (by decide)) (Nat.le_trans hl (by decide)) h
 zero:=Tm.ok_zero
 cl:=Zl0
mutual
theorem ZiM:∀ t:Tm,t.cl.okA=t.okA
 | .mk k nm s b kz=>by simp only [Tm.cl,Tm.okA,W0,ZfL kz]
theorem ZfL:∀ l:List Tm,ZeS (clL l)=ZeS l
 | []=>rfl
 |t::r=>by simp only [clL,ZeS,ZiM t,ZfL r]
end
theorem cls_okA:Kin fun t=>t.okA=true where
 kid h x hx:=VC h x hx
 app _ _ ha h:=by
  simp only [Tm.okA,ha,if_pos,decide_true,Bool.and_self,Bool.true_and]
  exact (Za5 _).2 h
 zero:=rfl
 cl {t} h:=by rw [ZiM];exact h
set_option linter.unusedSectionVars false
section
variable {P:Tm→Prop} (C:Kin P)
include C
theorem Kin.kd {t:Tm} (h:P t) (i:Nat):P (t.kd i):=by
 cases t
 rename_i kz
 simp only [Tm.kd,List.getD_eq_getElem?_getD]
 cases e:kz[i]? with
 |none=>exact C.zero
 |some x=>exact C.kid h x (List.mem_of_getElem? e)
theorem Kin.getD {l:List Tm} (h:∀ x,x∈l→P x) (i:Nat):P (l.getD i .zero):=by
 rw [List.getD_eq_getElem?_getD]
 cases e:l[i]? with
 |none=>exact C.zero
 |some x=>exact h x (List.mem_of_getElem? e)
mutual
theorem Kin.sum:∀ t:Tm,P t→∀ z,z∈t.sumP→P z
 | .mk k nm s b kz, h, z, hz => by
   rw [Tm.sumP] at hz
   split at hz
   · simp at hz
   · split at hz
     · exact Kin.sumL kz [] (C.kid h) (fun x hx=>by simp at hx) z hz
     · rw [List.mem_singleton] at hz
       subst hz
       exact h
theorem Kin.sumL:∀ l o:List Tm,(∀ x,x∈l→P x)→(∀ x,x∈o→P x)→∀ z,z∈ZI l o→P z
 | [], o, _, ho, z, hz => by
   rw [ZI] at hz
   exact ho z hz
 | t :: r, o, hl, ho, z, hz => by
   rw [ZI] at hz
   refine Kin.sumL r _ (fun x hx=>hl x (List.mem_cons_of_mem _ hx)) (fun x hx=>?_) z hz
   rcases Xq _ _ x hx with hx|hx
   · exact ho x hx
   · exact Kin.sum t (hl t List.mem_cons_self) x hx
end
theorem Kin.sumT {f:Bool} {l:List Tm} (h:∀ x,x∈l→P x) (hl:l.length≤1000000):P (sumT f l):=by
 match l,h,hl with
 | [],_,_=>exact C.app (by decide) (by decide) rfl (fun x hx=>by simp at hx)
 | [x],h,_=>exact h x List.mem_cons_self
 |x::y::r,h,hl=>exact C.app (by decide) hl rfl h
omit C in
theorem Kin.ins {l:List Pw} {n:Int} (hl:∀ x,x∈l→P x.1) (ht:P t):∀ z,z∈Wh l t n→P z.1:=fun z hz=>by
 rcases Zaw l t n z hz with h|h|⟨y,h1,h2⟩
 · exact hl z h
 · rw [h];exact ht
 · rw [← h2];exact hl y h1
mutual
theorem Kin.col:∀ (t:Tm) (n:Int) (l l':List Pw),P t→(∀ x,x∈l→P x.1)→t.col n l=some l'→∀ x,x∈l'→P x.1
 | .mk k nm s b kz, n, l, l', ht, hl, h => by
   rw [Tm.col] at h
   split at h
   · split at h
     · exact Kin.colL kz _ l l' (C.kid ht) hl h
     · exact absurd h (by simp)
   · cases h
     exact Kin.ins hl ht
theorem Kin.colL:∀ (ts:List Tm) (n:Int) (l l':List Pw),(∀ x,x∈ts→P x)→(∀ x,x∈l→P x.1)→Go.Vm.colL ts n l=some l'→∀ x,x∈l'→P x.1
 | [], n, l, l', _, hl, h => by
   rw [Go.Vm.colL] at h
   cases h
   exact hl
 | t :: r, n, l, l', ht, hl, h => by
   rw [Go.Vm.colL] at h
   cases e:t.col n l with
   | none=>rw [e] at h;exact absurd h (by simp)
   | some m =>
     rw [e] at h
     exact Kin.colL r n m l' (fun x hx=>ht x (List.mem_cons_of_mem _ hx)) (Kin.col t n l m (ht t List.mem_cons_self) hl e) h
end
theorem Kin.of (h:P t):∀ x,x∈(ofG t).1→P x.1:=by
 unfold ofG
 split
 · intro x hx;simp at hx
 · split
   · intro x hx;simp at hx
   · rename_i l e
     split
     · intro x hx;simp at hx
     · exact C.col t 1 [] l h (fun x hx=>by simp at hx) e
omit C in
theorem Kin.insF:∀ (b l:List Pw),(∀ x,x∈l→P x.1)→(∀ x,x∈b→P x.1)→∀ x,x∈Go.Vm.insF l b→P x.1
 | [],_,h,_=>h
 |y::r,_,h,hb=>Kin.insF r _ (Kin.ins h (hb y List.mem_cons_self)) fun x hx=>hb x (List.mem_cons_of_mem _ hx)
theorem Kin.mul {a b:List Pw} (ha:∀ x,x∈a→P x.1) (hb:∀ x,x∈b→P x.1):∀ x,x∈(Vd a b).1→P x.1:=by
 unfold Vd Zis ZeQ
 split; · intro x hx;simp at hx
 split; · intro x hx;simp at hx
 split; · intro x hx;simp at hx
 split; · intro x hx;simp at hx
 exact Kin.insF b a ha hb
theorem Kin.ops {l:List Pw} (h:∀ x,x∈l→P x.1):∀ z,z∈Wj l→P z:=fun z hz=>by
 rcases List.mem_append.1 hz with hz|hz
 · obtain ⟨x, hx, hz⟩ := List.mem_flatMap.1 hz
   rw [(List.mem_replicate.1 hz).2]
   exact h x hx
 · obtain ⟨x, hx, hz⟩ := List.mem_flatMap.1 hz
   rw [(List.mem_replicate.1 hz).2]
   refine C.app (by decide) (by simp) rfl fun y hy=>?_
   rw [List.mem_singleton] at hy
   subst hy
   exact h x hx
theorem Kin.prodT {f:Bool} {l:List Tm} (h:∀ x,x∈l→P x) (hl:l.length≤1000000):P (prodT f l):=by
 match l,h,hl with
 | [],_,_=>exact C.app (by decide) (by decide) rfl (fun x hx=>by simp at hx)
 | [x],h,_=>exact h x List.mem_cons_self
 |x::y::r,h,hl=>exact C.app (by decide) hl rfl h
theorem Kin.termG {f:Bool} {l:List Pw} (h:∀ x,x∈l→P x.1):P (termG f l).1:=by
 unfold Go.Vm.termG ZhQ
 split; · exact C.zero
 split; · exact C.zero
 rename_i h8
 split; · exact C.zero
 exact C.prodT (C.ops h) (by omega)
theorem Kin.prd (h:P t):P (Qs f t).1:=by
 unfold Qs
 split; · exact C.zero
 exact C.termG (C.of h)
theorem Kin.fin {p:List Pw} (hb:P b) (hp:∀ x,x∈p→P x.1):P (UX f b p).1:=by
 unfold UX
 split; · exact hb
 split; · exact C.zero
 refine C.app (by decide) (by simp) rfl fun y hy=>?_
 simp only [List.mem_cons,List.not_mem_nil,or_false] at hy
 rcases hy with rfl|rfl
 · exact hb
 · exact C.termG hp
theorem Kin.rse (hb:P b) (he:P e):P (X2 f b e).1:=by
 unfold X2
 split; · exact C.zero
 split
 · split; · exact C.zero
   split; · exact C.zero
   exact C.fin (C.kd hb 0) (C.mul (C.of (C.kd hb 1)) (C.of he))
 · exact C.fin hb (C.of he)
theorem Kin.dst (h:P t):P (Xc t):=by
 unfold Xc Zbf
 split
 · exact C.kd (C.kd h 0) _
 · exact h
end
theorem VP:∀ a b:List Tm,(ZZ a b).length≤a.length+b.length
 | [],b=>by rw [ZZ];simp
 |x::a,[]=>by rw [ZZ];simp
 | x :: a, y :: b => by
   have h1:=VP a (y::b)
   have h2:=VP (x::a) b
   have h3:=VP a b
   simp only [List.length_cons] at *
   rw [ZZ]
   split
   · rw [List.length_cons];omega
   · split
     · rw [List.length_cons];omega
     · omega
termination_by a b=>a.length+b.length
mutual
theorem VB:∀ t:Tm,t.sumP.length≤t.size
 | .mk k nm s b kz => by
   rw [Tm.sumP,Tm.size]
   split
   · simp
   · split
     · have := YU kz []
       simp only [List.length_nil] at this
       omega
     · simp only [List.length_singleton];omega
theorem YU:∀ l o:List Tm,(ZI l o).length≤o.length+Zl l
 | [],o=>by rw [ZI];omega
 | t :: r, o => by
   have h1:=YU r (ZZ o t.sumP)
   have h2:=VP o t.sumP
   have h3:=VB t
   rw [ZI,Zl]
   omega
end
theorem ZaF:∀ (l:List Pw) (t:Tm) (n:Int),(Wh l t n).length≤l.length+1
 | [],t,n=>by simp [Wh]
 | x :: r, t, n => by
   have:=ZaF r t n
   simp only [Wh]
   split
   · simp only [List.length_cons];omega
   · split
     · simp
     · split<;>simp only [List.length_cons]<;>omega
mutual
theorem Zc2:∀ (t:Tm) (n:Int) (l l':List Pw),t.col n l=some l'→l'.length≤l.length+t.size
 | .mk k nm s b kz, n, l, l', h => by
   rw [Tm.col] at h
   rw [Tm.size]
   split at h
   · split at h
     · have := ZaE kz _ l l' h
       omega
     · exact absurd h (by simp)
   · cases h
     have:=ZaF l (.mk k nm s b kz) n
     omega
theorem ZaE:∀ (ts:List Tm) (n:Int) (l l':List Pw),colL ts n l=some l'→l'.length≤l.length+Zl ts
 | [], n, l, l', h => by
   rw [colL] at h
   cases h
   omega
 | t :: r, n, l, l', h => by
   rw [colL] at h
   rw [Zl]
   cases e:t.col n l with
   | none=>rw [e] at h;exact absurd h (by simp)
   | some m =>
     rw [e] at h
     have h1:=Zc2 t n l m e
     have h2:=ZaE r n m l' h
     omega
end
theorem VF (t:Tm):1≤t.size:=by cases t;rw [Tm.size];omega
theorem Y7 (h:t.valid=0):t.size≤400:=by
 unfold Tm.valid at h
 split at h
 · rename_i h1;exact absurd h h1
 · split at h
   · exact absurd h (by decide)
   · omega
theorem Yf:Tm.zero.size=1:=rfl
theorem Zf8 (c:Bool) (l:List Tm):(sumG c l).1.size≤400:=by
 unfold sumG
 split; · rw [Yf];omega
 split; · rw [Yf];omega
 split; · rw [Yf];omega
 rename_i h
 exact Y7 (Classical.not_not.1 h)
theorem QR (f:Bool) (l:List Pw):(termG f l).1.size≤400:=by
 unfold termG ZhQ
 split; · rw [Yf];omega
 split; · rw [Yf];omega
 split; · rw [Yf];omega
 rename_i h
 exact Y7 (Classical.not_not.1 h)
theorem ZgI (f:Bool) (t:Tm):(Qs f t).1.size≤400:=by
 unfold Qs
 split; · rw [Yf];omega
 exact QR _ _
theorem ZJ:∀ {l:List Tm} {x:Tm},x∈l→x.size≤Zl l
 | y :: r, x, h => by
   rw [Zl]
   rcases List.mem_cons.1 h with rfl|h
   · omega
   · have := ZJ h
     omega
theorem ZcI (t:Tm) (i:Nat):(t.kd i).size≤t.size:=by
 cases t
 rename_i kz
 simp only [Tm.kd,List.getD_eq_getElem?_getD,Tm.size]
 cases e:kz[i]? with
 |none=>rw [Option.getD_none,Yf];omega
 | some x =>
   have:=ZJ (List.mem_of_getElem? e)
   rw [Option.getD_some]
   omega
theorem ZbW (f:Bool) (b:Tm) (p:List Pw):(UX f b p).1.size≤b.size+401:=by
 have:=QR f p
 unfold UX
 split; · show b.size≤_;omega
 split; · rw [Yf];omega
 simp only [Tm.size,Zl]
 omega
theorem ZfR (f:Bool) (b e:Tm):(X2 f b e).1.size≤b.size+401:=by
 have h1:=ZcI b 0
 have h2:=ZbW f (b.kd 0)
 have h3:=ZbW f b
 unfold X2
 split; · rw [Yf];omega
 split
 · split; · rw [Yf]; omega
   split; · rw [Yf];omega
   exact Nat.le_trans (h2 _) (by omega)
 · exact h3 _
theorem Ze3 (t:Tm):(Xc t).size≤t.size:=by
 unfold Xc Zbf
 split
 · exact Nat.le_trans (ZcI _ _) (ZcI _ _)
 · exact Nat.le_refl _
theorem ZfP {b:Bool} (h:(Tm.mk 3 nm s b kz).th=0):(YG nm).kind≠0∧(YG nm).least≤kz.length∧(kz.length:Int)≤(YG nm).most∧thL kz=0:=by
 rw [Tm.th] at h
 split at h
 · rename_i h1;exact absurd rfl h1
 split at h
 · exact absurd h (by decide)
 rename_i h2
 split at h
 · exact absurd h (by decide)
 rename_i h3
 split at h
 · exact absurd h (by decide)
 exact ⟨h2,by omega,by omega,h⟩
theorem Zk4 {n m:Nat} (h:ZjD nm m=true) (e:n=m):ZjD nm n=true:=by rw [e];exact h
theorem UH {n:Nat} (h0:(YG nm).kind≠0) (h1:(YG nm).least≤n) (h2:(n:Int)≤(YG nm).most):nm.length≤24∧n≤8∧ZjD nm n=true:=by
 rcases Qq nm with e|⟨e1,e2⟩
 · rw [e] at h0;exact absurd rfl h0
 · rw [← e2]
   revert h1 h2
   generalize YG nm=s at e1
   simp only [QK,List.mem_cons,List.not_mem_nil,or_false] at e1
   rcases e1 with rfl|rfl|rfl|rfl|rfl|rfl|rfl|rfl|rfl|rfl|rfl|rfl|rfl|rfl|rfl|rfl|rfl|rfl|rfl|rfl|rfl<;>intro h1 h2<;>simp only at h1 h2<;>refine ⟨by decide,by omega,?_⟩<;>first|rfl|exact Zk4 (m:=2) rfl (by omega)|exact Zk4 (m:=1) rfl (by omega)
theorem Zba (c:Bool):∀ l:List Tm,(nrmL c l).2=0→(nrmL c l).1.length=l.length
 | [],_=>rfl
 | t :: r, h => by
   have ih:=Zba c r
   simp only [nrmL] at h ⊢
   split at h
   · rename_i h1;exact absurd h h1
   rename_i h1
   split at h
   · rename_i h2;exact absurd h h2
   rename_i h2
   rw [if_neg h1,if_neg h2,List.length_cons,List.length_cons,ih (Classical.not_not.1 h2)]
theorem Zjl (f:Bool):(Qs f (.mk 3 Vn 0 f [])).1.size≤1:=by cases f<;>decide
theorem Zfx {c : Bool} (h1 : (YG nm).least ≤ kz.length) (h2 : (kz.length : Int) ≤ (YG nm).most) (hlen : ks.length = kz.length) (hs : Zl ks ≤ 201 * Zl kz)
  (hh:∀ x r y q,kz=x::r→ks=y::q→y.size≤201*x.size):(YC c nm ks).1.size≤201*(1+Zl kz):=by
 have two:2≤kz.length→2≤Zl kz:=fun h=>by
  match kz,h with
  | x :: y :: r, _ =>
    have a:=VF x
    have b:=VF y
    simp only [Zl]
    omega
 unfold YC
 split
 · have := Ze3 (.mk 3 nm 0 c ks)
   rw [Tm.size] at this
   show (Xc _).size≤_
   omega
 split
 · rename_i _ e
   have e1:(YG nm).least=2:=by rw [e];rfl
   have:=two (by omega)
   have:=Zf8 c ks
   omega
 split
 · rename_i _ _ e
   simp only [Zau,Bool.or_eq_true,Bool.and_eq_true,decide_eq_true_eq,true_and] at e
   have hp:=ZgI c (.mk 3 nm 0 c ks)
   rcases e with e|e|e
   · have e1 : (YG nm).least = 2 := by rw [e]; rfl
     have:=two (by omega)
     omega
   · have e1 : (YG nm).least = 1 := by rw [e]; rfl
     match kz,h1 with
     | [],h1=>rw [e1] at h1;simp at h1
     | x :: r, _ =>
       have:=VF x
       simp only [Zl]
       omega
   · have e1 : (YG nm).most = 0 := by rw [e]; rfl
     have e2:ks= []:=List.length_eq_zero_iff.1 (by omega)
     subst e2
     subst e
     have:=Zjl c
     omega
 split
 · rename_i _ _ _ e
   have e1:(YG nm).least=2:=by rw [e];rfl
   match kz,ks,h1,hlen with
   | [],_,h1,_=>rw [e1] at h1;simp at h1
   | [_],_,h1,_=>rw [e1] at h1;simp at h1
   | x::z::r,[],_,hlen=>simp at hlen
   | x :: z :: r, y :: q, _, _ =>
     have a:=hh x _ y q rfl rfl
     have b:=ZfR c y ((y::q).getD 1 .zero)
     rw [List.getD_cons_zero]
     have d:=VF z
     simp only [Zl]
     omega
 · show (Tm.mk 3 nm 0 c ks).size ≤ _
   rw [Tm.size]
   omega
mutual
theorem UM (c:Bool):∀ t:Tm,t.th=0→(t.nrm c).1.size≤201*t.size
 | .mk k nm s b kz, h => by
   have h9:=VF (.mk k nm s b kz)
   rw [Tm.nrm]
   split
   · show (Tm.mk k nm s b kz).size ≤ _
     omega
   rename_i hk
   have hk:=Classical.not_not.1 hk
   subst hk
   obtain ⟨h0,h1,h2,h3⟩:=ZfP h
   split
   · rw [Yf];omega
   rename_i he
   obtain ⟨a,b'⟩:=Qe c kz h3
   have:=Zfx (c:=c) h1 h2 (Zba c kz (Classical.not_not.1 he)) a b'
   rw [Tm.size]
   exact this
theorem Qe (c:Bool):∀ l:List Tm,thL l=0→Zl (nrmL c l).1≤201*Zl l∧∀ x r y q,l=x::r→(nrmL c l).1=y::q→y.size≤201*x.size
 | [],_=>⟨by simp [nrmL,Zl],fun x r y q h=>by simp at h⟩
 | t :: r, h => by
   rw [thL] at h
   split at h
   · rename_i h1;exact absurd h h1
   rename_i h1
   have a:=UM c t (Classical.not_not.1 h1)
   obtain ⟨b,_⟩:=Qe c r h
   rw [nrmL]
   split
   · exact ⟨by simp [Zl],fun _ _ _ _ _ h=>by simp at h⟩
   split
   · exact ⟨by simp [Zl],fun _ _ _ _ _ h=>by simp at h⟩
   refine ⟨by simp only [Zl];omega,fun x r' y q e e'=>?_⟩
   cases e
   cases e'
   exact a
end
theorem Zlh {P:Tm→Prop} (C:Kin P):∀ l,(∀ x,x∈l→P x)→∀ x,x∈clL l→P x:=fun l h x hx=>by
 rw [Xh] at hx
 obtain ⟨y,hy,rfl⟩:=List.mem_map.1 hx
 exact C.cl (h y hy)
theorem Ze2 {P:Tm→Prop} (C:Kin P) (m:Bool) (l:List Tm) (h:∀ x,x∈l→P x):∀ x,x∈Zcm m l→P x:=by
 cases m
 · exact h
 · exact Zlh C l h
section
variable {P:Tm→Prop} (C:Kin P) {c:Bool}
include C
theorem Kin.sumG {l:List Tm} (h:∀ x,x∈l→P x) (hs:Zl l≤1000000):P (sumG c l).1:=by
 unfold Go.Vm.sumG
 split; · exact C.zero
 split; · exact C.zero
 split; · exact C.zero
 refine C.sumT (Ze2 C c _ (C.sumL l [] h fun x hx=>by simp at hx)) ?_
 have:=YU l []
 rw [Zd0]
 simp only [List.length_nil] at this
 omega
theorem Kin.step (h0:(YG nm).kind≠0) (h1:(YG nm).least≤ks.length) (h2:(ks.length:Int)≤(YG nm).most) (h:∀ x,x∈ks→P x) (hs:Zl ks≤1000000):P (YC c nm ks).1:=by
 obtain ⟨a1,a2,a3⟩:=UH h0 h1 h2
 have ht:P (.mk 3 nm 0 c ks):=C.app a1 (by omega) a3 h
 unfold YC
 split; · exact C.dst ht
 split; · exact C.sumG h hs
 split; · exact C.prd ht
 split
 · exact C.rse (C.getD h 0) (C.getD h 1)
 · exact ht
mutual
theorem Kin.nrm:∀ t:Tm,t.th=0→t.size≤4000→P t→P (t.nrm c).1
 | .mk k nm s b kz, h, hs, hp => by
   rw [Tm.nrm]
   split
   · exact hp
   rename_i hk
   have hk:=Classical.not_not.1 hk
   subst hk
   obtain ⟨h0,h1,h2,h3⟩:=ZfP h
   rw [Tm.size] at hs
   split
   · exact C.zero
   rename_i he
   have e:=Zba c kz (Classical.not_not.1 he)
   have a:=(Qe c kz h3).1
   refine Kin.step C h0 (by rw [e];exact h1) (by rw [e];exact h2) (Kin.nrmL kz h3 (by omega) (C.kid hp)) (by omega)
theorem Kin.nrmL:∀ l:List Tm,thL l=0→Zl l≤4000→(∀ x,x∈l→P x)→∀ x,x∈(Go.Vm.nrmL c l).1→P x
 | [],_,_,_=>fun x hx=>by simp [Go.Vm.nrmL] at hx
 | t :: r, h, hs, hp => by
   rw [thL] at h
   rw [Zl] at hs
   split at h
   · rename_i h1;exact absurd h h1
   rename_i h1
   have a:=Kin.nrm t (Classical.not_not.1 h1) (by omega) (hp t List.mem_cons_self)
   have b:=Kin.nrmL r h (by omega) fun x hx=>hp x (List.mem_cons_of_mem _ hx)
   rw [Go.Vm.nrmL]
   split
   · intro x hx;simp at hx
   split
   · intro x hx;simp at hx
   intro x hx
   rcases List.mem_cons.1 hx with rfl|hx
   · exact a
   · exact b x hx
end
end
mutual
theorem ZgK:∀ t:Tm,t.nodes=0→t.th=0→t.okA=true
 | .mk k nm s b kz, hn, ht => by
   rw [Tm.nodes] at hn
   split at hn
   · rename_i h1;exact absurd hn h1
   rename_i h1
   have h1:=Classical.not_not.1 h1
   unfold Wa at h1
   split at h1
   · exact absurd h1 (by decide)
   rename_i h2
   rw [Tm.okA]
   by_cases hk:k=3
   · subst hk
     obtain ⟨a0,a1,a2,a3⟩:=ZfP ht
     have hs:s=0:=Classical.byContradiction fun h=>h2 (by simp [h])
     rw [if_pos rfl,(UH a0 a1 a2).2.2,Zf3 kz hn a3,hs]
     rfl
   · have hz : kz = [] := by
       cases kz with
       | nil=>rfl
       | cons x r=>exact absurd (by simp [hk]) h2
     rw [if_neg hk,hz]
     rfl
theorem Zf3:∀ l:List Tm,YW l=0→thL l=0→ZeS l=true
 | [],_,_=>rfl
 | t :: r, hn, ht => by
   rw [YW] at hn
   rw [thL] at ht
   split at hn
   · rename_i h1;exact absurd hn h1
   rename_i h1
   split at ht
   · rename_i h2;exact absurd ht h2
   rename_i h2
   rw [ZeS,ZgK t (Classical.not_not.1 h1) (Classical.not_not.1 h2),Zf3 r hn ht]
   rfl
end
theorem XQ:∀ {l:List Tm} {i:Nat} {t:Tm} (o:List Tm),l[i]? = some t→ZI (l.take (i+1)) o=ZZ (ZI (l.take i) o) t.sumP
 | [],i,t,o,h=>by simp at h
 | x :: r, 0, t, o, h => by
   have e:x=t:=by simpa using h
   subst e
   simp only [List.take_succ_cons,List.take_zero,ZI]
 | x :: r, i + 1, t, o, h => by
   simp only [List.take_succ_cons,ZI]
   exact XQ _ (by simpa using h)
mutual
theorem Zb8:∀ (t z:Tm),z∈t.sumP→z.size≤t.size
 | .mk k nm s b kz, z, hz => by
   rw [Tm.sumP] at hz
   split at hz
   · simp at hz
   · split at hz
     · rcases Uh kz [] z hz with h | ⟨x, hx, h⟩
       · simp at h
       · have := ZJ hx
         rw [Tm.size]
         omega
     · rw [List.mem_singleton] at hz
       rw [hz]
       exact Nat.le_refl _
theorem Uh:∀ (l o:List Tm) (z:Tm),z∈ZI l o→z∈o∨∃ x,x∈l∧z.size≤x.size
 | [], o, z, hz => by
   rw [ZI] at hz
   exact .inl hz
 | t :: r, o, z, hz => by
   rw [ZI] at hz
   rcases Uh r _ z hz with h|⟨x,hx,h⟩
   · rcases Xq _ _ z h with h | h
     · exact .inl h
     · exact .inr ⟨t,List.mem_cons_self,Zb8 t z h⟩
   · exact .inr ⟨x,List.mem_cons_of_mem _ hx,h⟩
end
def SmL (l:List Tm):Prop:=∀ t,t∈l→t.Ok∧t.size≤100000
theorem SmL.tail {r:List Tm} (h:SmL (x::r)):SmL r:=fun t ht=>h t (List.mem_cons_of_mem _ ht)
theorem SmL.head {r:List Tm} (h:SmL (x::r)):x.Ok∧x.size≤100000:=h x List.mem_cons_self
theorem SmL.take {l:List Tm} (h:SmL l) (i:Nat):SmL (l.take i):=fun t ht=>h t (List.mem_of_mem_take ht)
theorem SmL.sum {t:Tm} (h:t.Ok) (hs:t.size≤100000):SmL t.sumP:=fun x hx=>⟨cls_ok.sum t h x hx,Nat.le_trans (Zb8 t x hx) hs⟩
theorem SmL.sumL {l:List Tm} (h:SmL l):SmL (ZI l []):=fun x hx=>⟨cls_ok.sumL l [] (fun y hy=>(h y hy).1) (fun y hy=>by simp at hy) x hx,by
 rcases Uh l [] x hx with h'|⟨y,hy,h'⟩
 · simp at h'
 · exact Nat.le_trans h' (h y hy).2⟩
open Go.RowKit Go.Sort Go.Proofs
section
variable {E E1:Env} {P:Program}
end
section
variable {E:Env} {P:Program}
end
section
variable {E:Env} {P:Program}
def bxK (bx:List Box) (L:List Box) (k:Nat):List Box:=match L with
 | []=>bx
 |_::_=>bx.set k .dead
theorem XH (bx L:List Box) (k:Nat):(bxK bx L k).length=bx.length:=by cases L<;>simp [bxK]
theorem Zfe (h:k≠i):(bxK bx L k)[i]? = bx[i]? :=by
 cases L with
 |nil=>rfl
 |cons a r=>exact List.getElem?_set_ne h
def Gh.slot (g:Gh) (L:List Box) (k:Nat):Gh where
 S:=g.S
 σ:=fun i=>match L with
  | []=>none
  | _::_=>if i=0 then g.σ k else none
 τ:=fun _=>none
 κ:=fun _=>g.κ k
 mono:=g.mono
def Gh.unslot (g' g:Gh) (n j:Nat):Gh where
 S:=g'.S
 σ:=fun i=>if i=n then g'.σ j else g.σ i
 τ:=g.τ
 κ:=fun i=>if i=n then g'.κ j else g.κ i
 mono:=g.mono
theorem ZfF (hf:Yc el=some el) (hS:g2.S=g.S) (hi:i<el.length) (hj:j<(el[i]).length) (h:V g ((el[i])[j]) v):V g2 ((el[i])[j]) v:=by
 obtain ⟨-,h2⟩:=UD hf
 obtain ⟨-,h4⟩:=Qj (h2 i hi hi)
 have:=V1 h (h4 j hj hj)
 exact .pure _ _ (hS ▸ this)
def Zfn (L:List Box) (H:Heap) (k:Nat):Prop:=L= []∨∃ es el,L= [.cells es el]∧H.bx[k]? = some (.cells es el)∧Yc el=some el∧H.ro≤k
theorem Qb (h:(⟨L,0,[],0⟩:Heap).liveAt i) {H:Heap} (hL:Zfn L H k):i=0∧∃ es el,L= [.cells es el]∧H.bx[k]? = some (.cells es el)∧H.ro≤k:=by
 obtain ⟨b,hb, -⟩:=h
 rcases hL with rfl|⟨es,el,rfl,h1, -,h2⟩
 · simp at hb
 · have := Zu hb
   exact ⟨by simpa using this,es,el,rfl,h1,h2⟩
theorem Zbv {b:Nat} (h:(g.slot L k).σ i=some b):i=0∧g.σ k=some b∧L≠ []:=by
 cases L with
 |nil=>cases h
 | cons a r =>
   simp only [Gh.slot] at h
   split at h
   · rename_i e
     exact ⟨e,h,by simp⟩
   · cases h
theorem CallOk.slot {f : FuncId} {args args0 : List PV} {r r' : PV} {H H1 : Heap} {L : List Box} {k j : Nat} {B : Box} (h : CallOk E P f args0 ⟨L, 0, [], 0⟩ r H1) (hL : Zfn L H k)
  (ha:∀ (g g0:Gh) (l:List Value),g0.S=g.S→(L≠ []→g0.σ 0=g.σ k∧g0.κ 0=g.κ k)→VL g args l→VL g0 args0 l)
  (hB:B= .dead∨∃ es el D,B= .cells es el∧H1.bx[j]? = some (.cells es (el++D))∧Yc el=some el)
  (hr:∀ (g1 g2:Gh) (v:Value),g2.S=g1.S→(g2.σ H.bx.length=g1.σ j∧g2.κ H.bx.length=g1.κ j)→V g1 r v→V g2 r' v) :
  CallOk E P f args H r' {H with bx:=bxK H.bx L k++ [B]}:=by
 intro g w vals hi hg hv
 have s0:L≠ []→(g.slot L k).σ 0=g.σ k:=fun hne=>by
  cases L with
  | nil=>exact absurd rfl hne
  | cons a r=>rfl
 have hi0:Inv (g.slot L k) ⟨L,0,[],0⟩ w:={
  st:=hi.st
  bx:=fun id es el e=>by
   rcases hL with rfl|⟨es',el',rfl,h1,h2,h3⟩
   · simp at e
   · have hid : id = 0 := by have := Zu e; simpa using this
     subst hid
     simp only [List.getElem?_cons_zero,Option.some.injEq,Box.cells.injEq] at e
     obtain ⟨rfl,rfl⟩:=e
     obtain ⟨b,c,T,a1,a2,a3,a4,a5,a6⟩:=hi.bx _ _ _ h1
     exact ⟨b,c,T,a1,a2,a3,a4,fun i hi0 j hj=>let ⟨v,x,y⟩:=a5 i hi0 j hj;⟨v,x,ZfF (g:=g) (g2:=g.slot _ k) h2 rfl hi0 hj y⟩,a6⟩
  mp:=fun id es e=>by
   rcases hL with rfl|⟨es',el',rfl,h1,h2,h3⟩
   · simp at e
   · have hid : id = 0 := by have := Zu e; simpa using this
     subst hid
     simp at e
  sp:=fun id T cs e=>by
   rcases hL with rfl|⟨es',el',rfl,h1,h2,h3⟩
   · simp at e
   · have hid : id = 0 := by have := Zu e; simpa using this
     subst hid
     simp at e
  inj:=fun i j b e1 e2 _ _=>by rw [(Qb e1 hL).1,(Qb e2 hL).1]
  sd:=fun id e=>by
   rcases hL with rfl|⟨es',el',rfl,h1,h2,h3⟩
   · rfl
   · have : id ≠ 0 := by simp at e; omega
     simp [Gh.slot,this]
  td:=fun _ _=>rfl
  tk:=fun t b lo hi' e=>by simp at e
  tinj:=fun t t' b lo hi' lo' hi2 e=>by simp at e
  nd:=List.nodup_nil
  lt:=fun t e=>by simp at e
  sz:=fun id b e=>hi.sz k b (Zbv e).2.1
  ro:=Nat.zero_le _
  rm:=fun id b c T m e1 e2 e3=>by
   obtain ⟨-,es,el, -,hk, -⟩:=Qb e1 hL
   exact hi.rm k b c T m ⟨_,hk,trivial⟩ (Zbv e2).2.1 e3}
 refine UponCall.mono (fun v w' ⟨g',hp,hi',K⟩=>?_) (h (g.slot L k) w vals hi0 hg (ha g _ _ rfl (fun hne=>⟨s0 hne,rfl⟩) hv))
 obtain ⟨N,hN⟩:∃ N,N=H.bx.length:=⟨_,rfl⟩
 rw [← hN] at hr
 have sh:∀ b,(L≠ []→g.σ k≠some b)→Shut (g.slot L k) ⟨L,0,[],0⟩ b:=fun b hb=>⟨fun id _ hl he=>by
  obtain ⟨_,e2,e3⟩:=Zbv he
  exact hb e3 e2,fun t lo hi2 ht=>by simp at ht⟩
 have kl:L≠ []→H.liveAt k∧H.ro≤k:=fun hne=>by
  rcases hL with rfl|⟨es',el',rfl,h1,h2,h3⟩
  · exact absurd rfl hne
  · exact ⟨⟨_,h1,trivial⟩,h3⟩
 have nk:∀ {i b},H.liveAt i→(L≠ []→i≠k)→g.σ i=some b→L≠ []→g.σ k≠some b:=fun {i b} hl hik hs hne hk=>hik hne (hi.inj i k b hl (kl hne).1 hs hk)
 have liveI:∀ i,i≠N→(⟨bxK H.bx L k++ [B],H.ro,H.live,H.nt⟩:Heap).liveAt i→H.liveAt i∧(L≠ []→i≠k):=fun i hiN hl=>by
  obtain ⟨b,hb,hal⟩:=hl
  have hlt:i<(bxK H.bx L k).length:=by
   have:=Zu hb
   simp only [List.length_append,List.length_singleton,XH] at this
   rw [XH];omega
  rw [List.getElem?_append_left hlt] at hb
  by_cases hik:k=i
  · subst hik
    cases L with
    | nil=>exact ⟨⟨b,hb,hal⟩,fun h=>absurd rfl h⟩
    | cons a r =>
      simp only [bxK] at hb hlt
      rw [List.getElem?_set_self (by simpa using hlt)] at hb
      cases hb
      exact hal.elim
  · rw [Zfe hik] at hb
    exact ⟨⟨b,hb,hal⟩,fun _ e=>hik e.symm⟩
 have σi:∀ i,i≠N→(g'.unslot g N j).σ i=g.σ i:=fun i h=>by simp [Gh.unslot,h]
 have Ji:∀ i,i≠N→(g'.unslot g N j).κ i=g.κ i:=fun i h=>by simp [Gh.unslot,h]
 have σN:(g'.unslot g N j).σ N=g'.σ j:=by simp [Gh.unslot]
 have JN:(g'.unslot g N j).κ N=g'.κ j:=by simp [Gh.unslot]
 have sN:g.σ N=none:=hi.sd N (by omega)
 have iN:∀ {i b},g.σ i=some b→i≠N:=fun {i b} h e=>by rw [e,sN] at h;cases h
 have le2:g.Le (g'.unslot g N j):=⟨fun b o v h=>K.le.S b o v h,fun i b h=>by rw [σi i (iN h)];exact h,fun t x h=>h,fun i b h=>Ji i (iN h),rfl⟩
 have le3:(g'.unslot g N j).S=g'.S:=rfl
 have nw:∀ b,g'.σ j=some b→w.heap.size≤b∨(L≠ []∧g.σ k=some b):=fun b hb=>by
  cases e:(g.slot L k).σ j with
  | some b0 =>
    obtain ⟨e1,e2,e3⟩:=Zbv e
    have:=K.le.σ _ _ e
    rw [hb] at this
    cases this
    exact .inr ⟨e3,e2⟩
  | none =>
    rcases K.new j b e hb with h3|⟨id',_,h4,h5⟩
    · exact .inl h3
    · obtain ⟨e1, e2, e3⟩ := Zbv h5
      exact .inr ⟨e3,e2⟩
 have apart:∀ {i b},H.liveAt i→(L≠ []→i≠k)→g.σ i=some b→g'.σ j≠some b:=fun {i b} hl hik hs hj=>by
  rcases nw b hj with h1|⟨h1,h2⟩
  · have:=hi.sz i b hs;omega
  · exact nk hl hik hs h1 h2
 have keepB:∀ {i b},H.liveAt i→(L≠ []→i≠k)→g.σ i=some b→w'.heap[b]? = w.heap[b]? ∧∀ o,g'.S b o=g.S b o:=fun {i b} hl hik hs=>
  ⟨K.heap b (hi.sz i b hs) (sh b (nk hl hik hs)),K.store b (hi.sz i b hs) (sh b (nk hl hik hs))⟩
 have getI:∀ i x,i≠N→(bxK H.bx L k++ [B])[i]? = some x→x.alive→H.bx[i]? = some x∧H.liveAt i∧(L≠ []→i≠k):=fun i x hiN hx hal=>by
  obtain ⟨h1,h2⟩:=liveI i hiN ⟨x,hx,hal⟩
  refine ⟨?_,h1,h2⟩
  have hlt:i<(bxK H.bx L k).length:=by
   have:=Zu hx
   simp only [List.length_append,List.length_singleton,XH] at this
   rw [XH];omega
  rw [List.getElem?_append_left hlt] at hx
  cases L with
  | nil=>exact hx
  | cons a r =>
    rw [Zfe (fun e=>h2 (by simp) e.symm)] at hx
    exact hx
 have getN:(bxK H.bx L k++ [B])[N]? = some B:=by
  rw [List.getElem?_append_right (by rw [XH];omega),XH,hN]
  simp
 refine ⟨g'.unslot g N j,hr g' _ v rfl ⟨σN,JN⟩ hp,⟨hi'.st,fun id es el e=>?_,fun id es e=>?_,fun id T cs e=>?_,fun a b x h1 h2 h3 h4=>?_,fun id e=>?_,hi.td,fun t b lo hi2 ht hτ=>?_,hi.tinj,hi.nd,hi.lt,fun id b e=>?_,?_,fun id b c T m h1 h2 h3=>?_⟩,
  ⟨le2,fun b hb hs=>K.heap b hb (sh b fun hne=>hs.1 k (kl hne).2 (kl hne).1),fun b hb hs=>K.store b hb (sh b fun hne=>hs.1 k (kl hne).2 (kl hne).1),K.size,fun id b e1 e2=>?_,fun t b lo hi2 e1 e2=>?_,rfl,?_,fun id e=>?_,Nat.le_refl _,fun t e=> .inl e,fun id b e1 e2=>(liveI id (iN e1) e2).1,fun id e1 e2=>?_,K.so⟩⟩
 · by_cases hid : id = N
   · subst hid
     rw [getN] at e
     cases e
     rcases hB with h0|⟨es',el',D,h0,h1,h2⟩
     · cases h0
     · cases h0
       obtain ⟨b,c,T,a1,a2,a3,a4,a5,a6⟩:=hi'.bx _ _ _ h1
       have hm:=Nat.mul_le_mul_right es (show el.length≤(el++D).length by simp)
       refine ⟨b,c,T,by rw [σN];exact a1,a2,fun i hi0=>?_,by omega,fun i hi0 q hq=>?_,a6⟩
       · have := a3 i (by rw [List.length_append]; omega)
         rwa [List.getElem_append_left hi0] at this
       · have := a5 i (by rw [List.length_append]; omega) q (by rw [List.getElem_append_left hi0]; exact hq)
         simp only [List.getElem_append_left hi0] at this
         obtain ⟨v,x,y⟩:=this
         exact ⟨v,x,ZfF h2 le3 hi0 hq y⟩
   · obtain ⟨h1, h2, h3⟩ := getI id _ hid e trivial
     obtain ⟨b,c,T,a1,a2,a3,a4,a5,a6⟩:=hi.bx _ _ _ h1
     obtain ⟨q1,q2⟩:=keepB h2 h3 a1
     exact ⟨b,c,T,by rw [σi id hid];exact a1,by rw [q1];exact a2,a3,a4,fun i hi0 q hq=>let ⟨v,x,y⟩:=a5 i hi0 q hq;⟨v,x,y.mono le2⟩,fun o=>(q2 o).trans (a6 o)⟩
 · by_cases hid : id = N
   · subst hid
     rw [getN] at e
     cases e
     rcases hB with h0|⟨es',el',D,h0,h1,h2⟩<;>cases h0
   · obtain ⟨h1, h2, h3⟩ := getI id _ hid e trivial
     obtain ⟨b,c,T,a1,a2,a3,a4,a5⟩:=hi.mp _ _ h1
     obtain ⟨q1,q2⟩:=keepB h2 h3 a1
     exact ⟨b,c,T,by rw [σi id hid];exact a1,by rw [q1];exact a2,a3,fun i hi0=>let ⟨z,x,y,y'⟩:=a4 i hi0;⟨z,x,y.mono le2,y'.mono le2⟩,fun o=>(q2 o).trans (a5 o)⟩
 · by_cases hid : id = N
   · subst hid
     rw [getN] at e
     cases e
     rcases hB with h0|⟨es',el',D,h0,h1,h2⟩<;>cases h0
   · obtain ⟨h1, h2, h3⟩ := getI id _ hid e trivial
     obtain ⟨b,c,a1,a2,a3,a4,a5⟩:=hi.sp _ _ _ h1
     obtain ⟨q1,q2⟩:=keepB h2 h3 a1
     exact ⟨b,c,by rw [σi id hid];exact a1,by rw [q1];exact a2,a3,fun i hi0=>let ⟨z,x,y⟩:=a4 i hi0;⟨z,x,y.mono le2⟩,fun o=>(q2 o).trans (a5 o)⟩
 · by_cases ha0 : a = N <;> by_cases hb0 : b = N
   · rw [ha0,hb0]
   · rw [ha0, σN] at h3
     rw [σi b hb0] at h4
     obtain ⟨p1,p2⟩:=liveI b hb0 h2
     exact absurd h3 (apart p1 p2 h4)
   · rw [hb0, σN] at h4
     rw [σi a ha0] at h3
     obtain ⟨p1,p2⟩:=liveI a ha0 h1
     exact absurd h4 (apart p1 p2 h3)
   · rw [σi a ha0] at h3
     rw [σi b hb0] at h4
     exact hi.inj a b x (liveI a ha0 h1).1 (liveI b hb0 h2).1 h3 h4
 · have e : N + 1 ≤ id := by simpa [XH, hN] using e
   rw [σi id (by omega)]
   exact hi.sd id (by omega)
 · obtain ⟨⟨c, T, a1, a2⟩, a3, a4⟩ := hi.tk t b lo hi2 ht hτ
   have hb:b<w.heap.size:=by
    rcases Nat.lt_or_ge b w.heap.size with h'|h'
    · exact h'
    · simp [Array.getElem?_eq_none h'] at a1
   have hsh:=sh b fun hne=>a4 k (kl hne).1
   refine ⟨⟨c,T,by rw [K.heap b hb hsh];exact a1,a2⟩,fun o ho=>(K.store b hb hsh o).trans (a3 o ho),fun id hl he=>?_⟩
   by_cases hid:id=N
   · rw [hid, σN] at he
     rcases nw b he with h1|⟨h1,h2⟩
     · omega
     · exact a4 k (kl h1).1 h2
   · rw [σi id hid] at he
     exact a4 id (liveI id hid hl).1 he
 · by_cases hid : id = N
   · rw [hid,σN] at e;exact hi'.sz j b e
   · rw [σi id hid] at e;exact Nat.lt_of_lt_of_le (hi.sz id b e) K.size
 · have := hi.ro
   simp only [List.length_append,XH,List.length_singleton];omega
 · by_cases hid : id = N
   · subst hid
     obtain ⟨x,hx,hal⟩:=h1
     rw [getN] at hx
     cases hx
     rw [σN] at h2
     rw [JN]
     rcases hB with rfl|⟨es',el',D,rfl,q1,q2⟩
     · exact hal.elim
     · exact hi'.rm j b c T m ⟨_,q1,trivial⟩ h2 h3
   · rw [σi id hid] at h2
     rw [Ji id hid]
     obtain ⟨p1,p2⟩:=liveI id hid h1
     rw [(keepB p1 p2 h2).1] at h3
     exact hi.rm id b c T m p1 h2 h3
 · by_cases hid : id = N
   · rw [hid, σN] at e2
     rcases nw b e2 with h1|⟨h1,h2⟩
     · exact .inl h1
     · exact .inr ⟨k,(kl h1).2,(kl h1).1,h2⟩
   · rw [σi id hid,e1] at e2;cases e2
 · rw [show (g'.unslot g N j).τ t=g.τ t from rfl,e1] at e2;cases e2
 · simp only [List.length_append,XH,List.length_singleton];omega
 · have hidl : id < H.bx.length := Nat.lt_of_lt_of_le e hi.ro
   show (bxK H.bx L k++ [B])[id]? = H.bx[id]?
   rw [List.getElem?_append_left (by rw [XH];exact hidl)]
   cases L with
   | nil=>rfl
   | cons a r=>exact Zfe (by have:=(kl (by simp)).2;have e:id<H.ro:=e;omega)
 · have e1 : id < N := by rw [hN]; exact e1
   rw [σi id (by omega)];exact e2
theorem VD {g0:Gh} {n:Nat} (h1:g0.σ k0=g.σ k) (h2:g0.κ k0=g.κ k) (h:V g (.own k es ix n) v):V g0 (.own k0 es ix n) v:=by
 cases h with
 |pure _ _ h=>cases h
 |own _ _ _ _ b cap a h hc ha hsp hk=>exact .own _ _ _ _ b cap a (h1.trans h) hc ha hsp ⟨by rw [h2];exact hk.1,hk.2⟩
theorem WB {g0:Gh} (hS:g0.S=g.S) (hf:frzG p=some p) (h:V g p v):V g0 p v:= .pure _ _ (hS ▸ Zbb h hf)
theorem ZbR {g0:Gh} (hS:g0.S=g.S) {l:List Value} (hf:ZP ax=some ax) (h:VL g ax l):VL g0 ax l:=by
 obtain ⟨-,h2⟩:=X8 hf
 exact ⟨h.1,fun i h1 h3=>WB hS (h2 i h1 h1) (h.2 i h1 h3)⟩
theorem Zfl {g0:Gh} (hS:g0.S=g.S) {n:Nat} (h1:g0.σ k0=g.σ k) (h2:g0.κ k0=g.κ k) {l:List Value} (hf:ZP ax=some ax) (h:VL g (.own k es ix n::ax) l):VL g0 (.own k0 es ix n::ax) l:=by
 obtain ⟨hl,hv⟩:=h
 obtain ⟨-,h3⟩:=X8 hf
 refine ⟨hl,fun i a b=>?_⟩
 cases i with
 |zero=>exact VD h1 h2 (hv 0 (by simp) b)
 | succ i =>
   have ha:i<ax.length:=by simpa using a
   have:=hv (i+1) (by simp;omega) b
   simp only [List.getElem_cons_succ] at this ⊢
   exact WB hS (h3 i ha ha) this
theorem ZdM {g1:Gh} {cs':List PV} (hl:cs'.length=cs.length) (hm:∀ i (hi:i<cs.length) (hi':i<cs'.length) v,V g1 cs[i] v→V g2 cs'[i] v) (h:V g1 (.tup cs) v):V g2 (.tup cs') v:=by
 obtain ⟨vs,h1,rfl,hv⟩:=h.tup_inv
 exact .tup _ _ (by omega) fun i hi=>hm i (by omega) hi _ (hv i (by omega))
theorem Zi1 {g1:Gh} (hS:g2.S=g1.S) {N n:Nat} (h:g2.σ N=g1.σ j∧g2.κ N=g1.κ j) (hq:frzG q=some q) (hv:V g1 (.tup [.own j es ix n,q]) v):V g2 (.tup [.own N es ix n,q]) v:=
 ZdM (cs:=[.own j es ix n,q]) (cs':=[.own N es ix n,q]) rfl (fun i hi hi' v x=>by
  match i,hi with
  | 0,_=>exact VD h.1 h.2 x
  | 1,_=>exact WB hS hq x) hv
theorem ZfW {g1:Gh} (hS:g2.S=g1.S) (hf:ZP cs=some cs) (hv:V g1 (.tup cs) v):V g2 (.tup cs) v:=by
 obtain ⟨-,h2⟩:=X8 hf
 exact ZdM rfl (fun i hi _ v x=>WB hS (h2 i hi hi) x) hv
inductive Mut (es:Nat) (bx:List Box):PV→List (List PV)→Prop
 |nil:Mut es bx .nils []
 |own (k:Nat) (el:List (List PV)) (h:bx[k]? = some (.cells es el)):Mut es bx (.own k es 0 el.length) el
def Wu (v:PV) (bx:List Box):List Box:=match v with
 | .own k _ _ _=>bx.set k .dead
 |_=>bx
theorem XW (v:PV) (bx:List Box):(Wu v bx).length=bx.length:=by
 unfold Wu
 split
 · simp
 · rfl
inductive Mut0 (es:Nat):PV→List Box→List (List PV)→Prop
 |nil:Mut0 es .nils [] []
 |own (el:List (List PV)):Mut0 es (.own 0 es 0 el.length) [.cells es el] el
inductive Out (es:Nat) (H1:Heap):PV→List (List PV)→Prop
 |nil:Out es H1 .nils []
 |own (j:Nat) (el D:List (List PV)) (h:H1.bx[j]? = some (.cells es (el++D))) (hf:Yc el=some el):Out es H1 (.own j es 0 el.length) el
theorem CallOk.mut {f : FuncId} {v : PV} {H : Heap} (hro : H.ro = 0) (hv : Mut es H.bx v el) (hf : Yc el = some el) (has : ZP ax = some ax)
  (h:∀ v0 L,Mut0 es v0 L el→∃ r H1,CallOk E P f (v0::ax) ⟨L,0,[],0⟩ r H1∧Out es H1 r el') :
  ∃ v' B,CallOk E P f (v::ax) H v' {H with bx:=Wu v H.bx++ [B]}∧Mut es (Wu v H.bx++ [B]) v' el'∧(v'= .nils∨∃ n,v'= .own H.bx.length es 0 n):=by
 have key : ∀ L k, Zfn L H k → bxK H.bx L k = Wu v H.bx → (∀ v0 : PV, Mut0 es v0 L el → ∀ (g g0 : Gh) (l : List Value), g0.S = g.S → (L ≠ [] → g0.σ 0 = g.σ k ∧ g0.κ 0 = g.κ k) → VL g (v :: ax) l → VL g0 (v0 :: ax) l) → (∃ v0, Mut0 es v0 L el) →
   ∃ v' B,CallOk E P f (v::ax) H v' {H with bx:=Wu v H.bx++ [B]}∧Mut es (Wu v H.bx++ [B]) v' el'∧(v'= .nils∨∃ n,v'= .own H.bx.length es 0 n):=fun L k hL hb ha hm=>by
  obtain ⟨v0,hm⟩:=hm
  obtain ⟨r,H1,hc,ho⟩:=h v0 L hm
  cases ho with
  | nil =>
    have h1:=hc.slot (r':= .nils) (B:= .dead) (j:=0) hL (ha v0 hm) (.inl rfl) (fun g1 g2 v hS _ x=>WB hS rfl x)
    rw [hb] at h1
    exact ⟨.nils,.dead,h1,.nil,.inl rfl⟩
  | own j _ D hj hf2 =>
    have h1:=hc.slot (r':= .own H.bx.length es 0 el'.length) (B:= .cells es el') (j:=j) hL (ha v0 hm) (.inr ⟨es,el',D,rfl,hj,hf2⟩) (fun g1 g2 v hS hs x=>VD hs.1 hs.2 x)
    rw [hb] at h1
    refine ⟨_,_,h1,.own H.bx.length el' ?_,.inr ⟨_,rfl⟩⟩
    rw [List.getElem?_append_right (by rw [XW];exact Nat.le_refl _),XW,Nat.sub_self]
    rfl
 cases hv with
 |nil=>exact key [] 0 (.inl rfl) rfl (fun v0 hm=>by cases hm;exact fun g g0 l hS _ x=>ZbR hS (by rw [ZP,has];rfl) x) ⟨_,.nil⟩
 |own k _ hk=>exact key [.cells es el] k (.inr ⟨es,el,rfl,hk,hf,by rw [hro];exact Nat.zero_le _⟩) rfl (fun v0 hm=>by cases hm;exact fun g g0 l hS hs x=>Zfl hS (hs (by simp)).1 (hs (by simp)).2 has x) ⟨_,.own el⟩
theorem CallOk.mutT (hq : frzG q = some q) {f : FuncId} {v : PV} {H : Heap} (hro : H.ro = 0) (hv : Mut es H.bx v el) (hf : Yc el = some el) (has : ZP ax = some ax)
  (h:∀ v0 L,Mut0 es v0 L el→∃ r H1,CallOk E P f (v0::ax) ⟨L,0,[],0⟩ (.tup [r,q]) H1∧Out es H1 r el') :
  ∃ v' B,CallOk E P f (v::ax) H (.tup [v',q]) {H with bx:=Wu v H.bx++ [B]}∧Mut es (Wu v H.bx++ [B]) v' el'∧(v'= .nils∨∃ n,v'= .own H.bx.length es 0 n):=by
 have key : ∀ L k, Zfn L H k → bxK H.bx L k = Wu v H.bx → (∀ v0 : PV, Mut0 es v0 L el → ∀ (g g0 : Gh) (l : List Value), g0.S = g.S → (L ≠ [] → g0.σ 0 = g.σ k ∧ g0.κ 0 = g.κ k) → VL g (v :: ax) l → VL g0 (v0 :: ax) l) → (∃ v0, Mut0 es v0 L el) →
   ∃ v' B,CallOk E P f (v::ax) H (.tup [v',q]) {H with bx:=Wu v H.bx++ [B]}∧Mut es (Wu v H.bx++ [B]) v' el'∧(v'= .nils∨∃ n,v'= .own H.bx.length es 0 n):=fun L k hL hb ha hm=>by
  obtain ⟨v0,hm⟩:=hm
  obtain ⟨r,H1,hc,ho⟩:=h v0 L hm
  cases ho with
  | nil =>
    have h1:=hc.slot (r':= .tup [.nils,q]) (B:= .dead) (j:=0) hL (ha v0 hm) (.inl rfl) (fun g1 g2 v hS _ x=>ZfW hS (by rw [ZP,ZP,hq];rfl) x)
    rw [hb] at h1
    exact ⟨.nils,.dead,h1,.nil,.inl rfl⟩
  | own j _ D hj hf2 =>
    have h1:=hc.slot (r':= .tup [.own H.bx.length es 0 el'.length,q]) (B:= .cells es el') (j:=j) hL (ha v0 hm) (.inr ⟨es,el',D,rfl,hj,hf2⟩) (fun g1 g2 v hS hs x=>Zi1 hS hs hq x)
    rw [hb] at h1
    refine ⟨_,_,h1,.own H.bx.length el' ?_,.inr ⟨_,rfl⟩⟩
    rw [List.getElem?_append_right (by rw [XW];exact Nat.le_refl _),XW,Nat.sub_self]
    rfl
 cases hv with
 |nil=>exact key [] 0 (.inl rfl) rfl (fun v0 hm=>by cases hm;exact fun g g0 l hS _ x=>ZbR hS (by rw [ZP,has];rfl) x) ⟨_,.nil⟩
 |own k _ hk=>exact key [.cells es el] k (.inr ⟨es,el,rfl,hk,hf,by rw [hro];exact Nat.zero_le _⟩) rfl (fun v0 hm=>by cases hm;exact fun g g0 l hS hs x=>Zfl hS (hs (by simp)).1 (hs (by simp)).2 has x) ⟨_,.own el⟩
theorem CallOk.mutF (hcs : ZP cs = some cs) {f : FuncId} {v : PV} {H : Heap} (hro : H.ro = 0) (hv : Mut es H.bx v el) (hf : Yc el = some el) (has : ZP ax = some ax)
  (h:∀ v0 L,Mut0 es v0 L el→∃ H1,CallOk E P f (v0::ax) ⟨L,0,[],0⟩ (.tup cs) H1):CallOk E P f (v::ax) H (.tup cs) {H with bx:=Wu v H.bx++ [.dead]}:=by
 have key : ∀ L k, Zfn L H k → bxK H.bx L k = Wu v H.bx → (∀ v0 : PV, Mut0 es v0 L el → ∀ (g g0 : Gh) (l : List Value), g0.S = g.S → (L ≠ [] → g0.σ 0 = g.σ k ∧ g0.κ 0 = g.κ k) → VL g (v :: ax) l → VL g0 (v0 :: ax) l) → (∃ v0, Mut0 es v0 L el) →
   CallOk E P f (v::ax) H (.tup cs) {H with bx:=Wu v H.bx++ [.dead]}:=fun L k hL hb ha hm=>by
  obtain ⟨v0,hm⟩:=hm
  obtain ⟨H1,hc⟩:=h v0 L hm
  have h1:=hc.slot (r':= .tup cs) (B:= .dead) (j:=0) hL (ha v0 hm) (.inl rfl) (fun g1 g2 v hS _ x=>ZfW hS hcs x)
  rw [hb] at h1
  exact h1
 cases hv with
 |nil=>exact key [] 0 (.inl rfl) rfl (fun v0 hm=>by cases hm;exact fun g g0 l hS _ x=>ZbR hS (by rw [ZP,has];rfl) x) ⟨_,.nil⟩
 |own k _ hk=>exact key [.cells es el] k (.inr ⟨es,el,rfl,hk,hf,by rw [hro];exact Nat.zero_le _⟩) rfl (fun v0 hm=>by cases hm;exact fun g g0 l hS hs x=>Zfl hS (hs (by simp)).1 (hs (by simp)).2 has x) ⟨_,.own el⟩
theorem ZlF {own : Tmp → Bool} {n : Nat} {K : TM → Heap → Prop} {tm : TM} {H : Heap} {t u : TypeId} {x y : Operand} {X Y : PV}
  (hw:Zd all tm ⟨some d,.call {callee:= .builtin .append,args:= #[x,y],argTypes:= #[t,u]},ty,pos,aft,grd⟩=some true) (hn:Nat.blt d n=true) (ho:own d=true) (hx:Zg E tm x=X) (hy:Zg E tm y=Y) (h:ZO E t u X Y H=some (p,H1))
  (hr:RegQ E P own n all r K (Zy tm (some d) p) H1):RegQ E P own n all (⟨some d,.call {callee:= .builtin .append,args:= #[x,y],argTypes:= #[t,u]},ty,pos,aft,grd⟩::r) K tm H:=
 .op (p:=p) hw (by simp only [Xn,hn]) (by simp [aOp,Yj,ho,hx,hy,h]) hr
theorem Znp {own : Tmp → Bool} {n : Nat} {K : TM → Heap → Prop} {tm : TM} {H : Heap} {t : TypeId} {m : Nat}
  (hw:Zd all tm ⟨some d,.buildSlice t m ps,ty,pos,aft,grd⟩=some true) (hn:Nat.blt d n=true) (ho:own d=false) (h:ZQ E t m (ps.toList.map fun p=>(p.1,Zg E tm p.2))=some (es,el)) (hf:Yc el=some el')
  (hr:RegQ E P own n all r K (Zy tm (some d) (.sl .full es el')) H):RegQ E P own n all (⟨some d,.buildSlice t m ps,ty,pos,aft,grd⟩::r) K tm H:=
 .op (p:= .sl .full es el') hw (by simp only [Xn,hn]) (by simp only [aOp,Option.getD_some,h,ho,Bool.false_eq_true,if_false,hf]) hr
theorem ZmJ {own : Tmp → Bool} {n : Nat} {K : TM → Heap → Prop} {tm : TM} {ops : Array Oper} {t : TypeId} {m : Nat} {ro nt : Nat} {lv : List Nat}
  (hw:Zd ops.toList tm ⟨some d,.buildSlice t m ps,ty,pos,aft,grd⟩=some true) (hn:Nat.blt d n=true) (ho:own d=true) (h:ZQ E t m (ps.toList.map fun p=>(p.1,Zg E tm p.2))=some (es,el))
  (hr:DrwQ E P own n ops n0 (i+1) r K (Zy tm (some d) (.own bx.length es 0 m)) ⟨bx++ [.cells es el],ro,lv,nt⟩):DrwQ E P own n ops n0 i (⟨some d,.buildSlice t m ps,ty,pos,aft,grd⟩::r) K tm ⟨bx,ro,lv,nt⟩:=by
 have hc:YF E own ⟨some d,.buildSlice t m ps,ty,pos,aft,grd⟩= .tk:=by simp [YF,ho]
 refine .stepN (p:= .own bx.length es 0 m) (H1:=⟨bx++ [.cells es el],ro,lv,nt⟩) (by simp only [Xn,hn]) (.inr (.inr ⟨hc,fun j b hj=>by rw [List.getElem?_append_left (Zu hj)];exact hj⟩)) (fun ho'=>?_) hr
 have hci:=(XJ (E:=E) (own:=own) ho').trans hc
 refine ⟨by rw [hci];simp,.inr (.inl ⟨by rw [hci];exact ⟨by simp,by simp,by simp⟩,?_⟩)⟩
 have:=Hp.tk (E:=E) (P:=P) (own:=own) (ops:=ops) (n0:=n0) (cls:=YN E own ops) (tgt:=fun _=>n0) (msk:=fun _=>[]) (i:=i) (o:=⟨some d,.buildSlice t m ps,ty,pos,aft,grd⟩) (tm:=tm) ⟨bx,ro,lv,nt⟩ (.own bx.length es 0 m) ⟨bx++ [.cells es el],bx.length,lv,nt⟩ hw hci
  (.op _ _ (by simp only [aOp,Option.getD_some,h,ho,if_true];rfl)) (by simp)
 have e:XL ⟨bx,ro,lv,nt⟩ ⟨bx++ [.cells es el],bx.length,lv,nt⟩=⟨bx++ [.cells es el],ro,lv,nt⟩:=by simp [XL]
 rw [e] at this
 exact this
end
section
variable {E:Env} {P:Program} {own:Tmp→Bool} {n:Nat} {K:TM→Heap→Prop} {tm:TM} {H:Heap}
theorem dCe {ops : Array Oper} {f : Operand} {args : Array Operand} {ats : Array TypeId} {k : FuncId} {caps al : List PV}
  (hw:Zd ops.toList tm ⟨some d,.call {callee:= .value f,args:=args,argTypes:=ats},ty,pos,aft,grd⟩=some true) (hn:Nat.blt d n=true) (hf:Zg E tm f= .fn k caps)
  (ha:args.toList.map (Zg E tm)++caps=al) (hc:YF E own ⟨some d,.call {callee:= .value f,args:=args,argTypes:=ats},ty,pos,aft,grd⟩= .ef) (h:CallOk E P k al H p H1) (hl:H.bx.length≤H1.bx.length)
  (hr:DrwQ E P own n ops n0 (i+1) r K (Zy tm (some d) p) H1):DrwQ E P own n ops n0 i (⟨some d,.call {callee:= .value f,args:=args,argTypes:=ats},ty,pos,aft,grd⟩::r) K tm H:=by
 refine .stepN (p:=p) (H1:=H1) (by simp only [Xn,hn]) (.inr (.inl hc)) (fun ho'=>?_) hr
 have hci:=(XJ (E:=E) (own:=own) ho').trans hc
 refine ⟨by rw [hci];simp,.inr (.inl ⟨by rw [hci];exact ⟨by simp,by simp,by simp⟩,?_⟩)⟩
 have:=Hp.ef (E:=E) (P:=P) (own:=own) (ops:=ops) (n0:=n0) (cls:=YN E own ops) (tgt:=fun _=>n0) (msk:=fun _=>[]) (i:=i) (o:=⟨some d,.call {callee:= .value f,args:=args,argTypes:=ats},ty,pos,aft,grd⟩) (tm:=tm) H p H1 hw hci
  (.call _ _ _ _ _ _ _ rfl hf (by rw [ha];exact h)) hl
 exact this
end
def Yo (f t n:Int):Int:=if n=f then t else if n=t then f else n
def Ym:Bs→Int
 | []=> -1
 |c::r=>if 0≤Ym r then Ym r+1 else if c=35 then 0 else -1
def Zck (s:Bs):Bool:=match s with
 |a::b::_=>decide (a=101)&&decide (b=35)
 |_=>false
def nmP (f t:Int) (s:Bs):Bs:=if Zck s=true then s else
 if 0≤Ym s∧s.drop ((Ym s).toNat+1)=Lib.itoa f then s.take ((Ym s).toNat+1)++Lib.itoa (Yo f t f)
 else if 0≤Ym s∧s.drop ((Ym s).toNat+1)=Lib.itoa t then s.take ((Ym s).toNat+1)++Lib.itoa (Yo f t t) else s
def nmR (f t:Int) (s:Bs):Bs:=if s.length<2∨Zck s=true∨s.getD (s.length-2) 0≠35∨(s.getD (s.length-1) 0).toNat<48∨57<(s.getD (s.length-1) 0).toNat then s else
 s.take (s.length-1)++Lib.itoa (Yo f t (((s.getD (s.length-1) 0).toNat:Int)-48))
theorem UY:∀ s:Bs,0≤Ym s→s=s.take (Ym s).toNat++35::s.drop ((Ym s).toNat+1)
 | [],h=>absurd h (by decide)
 | c :: r, h => by
   simp only [Ym] at h ⊢
   split
   · rename_i h1
     have ih:=UY r h1
     have e:(Ym r+1).toNat=(Ym r).toNat+1:=by omega
     rw [e,List.take_succ_cons,List.drop_succ_cons,List.cons_append, ← ih]
   · rename_i h1
     rw [if_neg h1] at h
     split
     · rename_i h2
       rw [h2]
       rfl
     · rename_i h2
       rw [if_neg h2] at h
       exact absurd h (by decide)
theorem Zbz:∀ (p:Bs) (c:UInt8),c≠35→Ym (p++ [35,c])=p.length
 | [],c,h=>by simp [Ym,h]
 | x :: p, c, h => by
   have ih:=Zbz p c h
   rw [List.cons_append,Ym,ih,if_pos (by omega),List.length_cons]
   omega
theorem WG {n:Int} (h0:0≤n) (h1:n≤9):Lib.itoa n= [UInt8.ofNat (48+n.toNat)]:=by
 unfold Lib.itoa
 obtain ⟨m,rfl⟩:∃ m:Nat,n=m:=⟨n.toNat,by omega⟩
 have:¬ ((m:Int)<0):=by omega
 simp only [this,if_false]
 exact Zo5 (by omega)
theorem U5 {f t n:Int} (hf:0≤f∧f≤9) (ht:0≤t∧t≤9) (hn:0≤n∧n≤9):0≤Yo f t n∧Yo f t n≤9:=by
 unfold Yo
 split
 · exact ht
 · split
   · exact hf
   · exact hn
theorem Zfb {c:UInt8} {f:Int} (hc:48≤c.toNat∧c.toNat≤57) (hf:0≤f∧f≤9):[c]=Lib.itoa f↔(c.toNat:Int)-48=f:=by
 rw [WG hf.1 hf.2]
 have e:(UInt8.ofNat (48+f.toNat)).toNat=48+f.toNat:=by
  simp only [UInt8.toNat_ofNat']
  omega
 constructor
 · intro h
   have h1:c=UInt8.ofNat (48+f.toNat):=by simpa using h
   rw [h1,e]
   omega
 · intro h
   have h1:c.toNat=(UInt8.ofNat (48+f.toNat)).toNat:=by rw [e];omega
   rw [UInt8.toNat_inj.1 h1]
theorem ZaQ (p:Bs) (a c:UInt8):(p++ [a,c]).length=p.length+2∧(p++ [a,c]).getD ((p++ [a,c]).length-2) 0=a∧(p++ [a,c]).getD ((p++ [a,c]).length-1) 0=c∧(p++ [a,c]).take ((p++ [a,c]).length-1)=p++ [a]:=by
 have hl:(p++ [a,c]).length=p.length+2:=by simp
 refine ⟨hl,?_,?_,?_⟩
 · rw [hl, List.getD_eq_getElem?_getD, show p.length + 2 - 2 = p.length + 0 by omega, List.getElem?_append_right (by omega)]
   simp
 · rw [hl, List.getD_eq_getElem?_getD, show p.length + 2 - 1 = p.length + 1 by omega, List.getElem?_append_right (by omega)]
   simp
 · rw [hl,show p.length+2-1=p.length+1 by omega,show p++ [a,c]=(p++ [a])++ [c] by simp,List.take_left' (by simp)]
theorem ZcQ:∀ s:Bs,2≤s.length→∃ p a c,s=p++ [a,c]
 | [a,c],_=>⟨[],a,c,rfl⟩
 | x :: y :: z :: r, _ => by
   obtain ⟨p,a,c,h⟩:=ZcQ (y::z::r) (by simp)
   exact ⟨x::p,a,c,by rw [h];rfl⟩
theorem Zgm {f t:Int} (hf:0≤f∧f≤9) (ht:0≤t∧t≤9) (s:Bs):nmP f t s=nmR f t s:=by
 unfold nmP nmR
 cases ho:Zck s with
 |true=>simp
 | false =>
   rw [if_neg (by decide)]
   have key:∀ n:Int,0≤n∧n≤9→0≤Ym s→s.drop ((Ym s).toNat+1)=Lib.itoa n→s=s.take (Ym s).toNat++ [35,UInt8.ofNat (48+n.toNat)]:=fun n hn h0 h1=>by
    have:=UY s h0
    rw [h1,WG hn.1 hn.2] at this
    exact this
   have dig:∀ n:Int,0≤n∧n≤9→48≤(UInt8.ofNat (48+n.toNat)).toNat∧(UInt8.ofNat (48+n.toNat)).toNat≤57:=fun n hn=>by
    simp only [UInt8.toNat_ofNat']
    omega
   by_cases hs:∃ p c,s=p++ [35,c]∧48≤c.toNat∧c.toNat≤57
   · obtain ⟨p, c, rfl, hc⟩ := hs
     have hc35:c≠35:=fun h=>by rw [h] at hc;exact absurd hc.1 (by decide)
     obtain ⟨e1,e2,e3,e4⟩:=ZaQ p 35 c
     rw [Zbz p c hc35,e2,e3,e4,e1]
     have d1:(p++ [35,c]).drop ((p.length:Int).toNat+1)= [c]:=by
      rw [Int.toNat_natCast,show p++ [35,c]=(p++ [35])++ [c] by simp,List.drop_left' (by simp)]
     have d2:(p++ [35,c]).take ((p.length:Int).toNat+1)=p++ [35]:=by
      rw [Int.toNat_natCast,show p++ [35,c]=(p++ [35])++ [c] by simp,List.take_left' (by simp)]
     rw [d1,d2,if_neg (c:=p.length+2<2∨_) (by simp;omega)]
     simp only [Zfb hc hf,Zfb hc ht]
     have h0:(0:Int)≤p.length:=by omega
     by_cases h1:(c.toNat:Int)-48=f
     · rw [if_pos ⟨h0,h1⟩,h1]
     · rw [if_neg (fun h => h1 h.2)]
       by_cases h2:(c.toNat:Int)-48=t
       · rw [if_pos ⟨h0,h2⟩,h2]
       · rw [if_neg (fun h => h2 h.2), Yo, if_neg h1, if_neg h2, ← (Zfb hc (f := (c.toNat : Int) - 48) ⟨by omega, by omega⟩).2 rfl]
         simp
   · rw [if_neg fun h => hs ⟨_, _, key f hf h.1 h.2, dig f hf⟩, if_neg fun h => hs ⟨_, _, key t ht h.1 h.2, dig t ht⟩]
     split
     · rfl
     · rename_i hn
       exfalso
       simp only [not_or,Nat.not_lt,ne_eq,Classical.not_not] at hn
       obtain ⟨n1,_,n2,n3,n4⟩:=hn
       obtain ⟨p,a,c,e⟩:=ZcQ s n1
       subst e
       obtain ⟨e1,e2,e3,e4⟩:=ZaQ p a c
       rw [e2] at n2
       rw [e3] at n3 n4
       subst n2
       exact hs ⟨p,c,rfl,n3,n4⟩
mutual
def Tm.xt (g:Bs→Bs):Tm→Tm
 | .mk k nm s _ kz=> .mk k (if k=2 then g nm else nm) s true (xtL g kz)
def xtL (g:Bs→Bs):List Tm→List Tm
 | []=>[]
 |t::r=>t.xt g::xtL g r
end
mutual
def Tm.chg (g:Bs→Bs):Tm→Bool
 | .mk k nm _ _ kz=>(decide (k=2)&& !decide (g nm=nm))||UG g kz
def UG (g:Bs→Bs):List Tm→Bool
 | []=>false
 |t::r=>t.chg g||UG g r
end
mutual
theorem Zio (g:Bs→Bs):∀ t:Tm,(t.xt g).cl=t.cl↔t.chg g=false
 | .mk k nm s b kz => by
   simp only [Tm.xt,Tm.cl,Tm.chg,Tm.mk.injEq,true_and,ZgH g kz,Bool.or_eq_false_iff]
   refine and_congr_left fun _=>?_
   by_cases hk:k=2
   · rw [if_pos hk]
     simp [hk]
   · rw [if_neg hk]
     simp [hk]
theorem ZgH (g:Bs→Bs):∀ l:List Tm,clL (xtL g l)=clL l↔UG g l=false
 | []=>by simp [xtL,UG]
 |t::r=>by simp only [xtL,clL,UG,List.cons.injEq,Zio g t,ZgH g r,Bool.or_eq_false_iff]
end
def Tm.rn (g:Bs→Bs) (c:Bool) (t:Tm):Tm:=if t.chg g=true∧((t.xt g).nf c).2=0 then ((t.xt g).nf c).1 else t.xt g
def Tm.rnR (g:Bs→Bs) (t:Tm):Tm:=if (t.xt g).cmp t≠0 then (if ((t.xt g).nf false).2=0 then ((t.xt g).nf false).1 else t.xt g) else t.xt g
theorem ZkM (g:Bs→Bs) (t:Tm):t.rnR g=t.rn g false:=by
 unfold Tm.rnR Tm.rn
 have h:(t.xt g).cmp t=0↔t.chg g=false:=by rw [Vl];exact Zio g t
 cases hc:t.chg g with
 | true =>
   rw [if_pos (fun e=>by rw [h.1 e] at hc;cases hc)]
   simp
 |false=>rw [if_neg (not_not_intro (h.2 hc)),if_neg (fun e=>by cases e.1)]
theorem ZjL (g:Bs→Bs) (t:Tm):(t.rn g true).cl=(t.rn g false).cl:=by
 obtain ⟨e1,e2⟩:=Zjd (t:=t.xt g) rfl
 unfold Tm.rn
 rw [e1]
 split
 · exact e2
 · rfl
def Mo.rn (f t:Int) (h:Tm→Tm) (m:Mo):Mo:={m with num:=if m.kind≠6 then Yo f t m.num else m.num,terms:=m.terms.map h}
def Mo.same (a b:Mo):Prop:=a.kind=b.kind∧a.num=b.num∧a.role=b.role∧a.goal=b.goal∧a.agents=b.agents∧a.terms.map Tm.cl=b.terms.map Tm.cl
section
variable {E:Env} {P:Program}
theorem Zb5 {f : FuncId} {c : Code} (hf : FnOk P f fn c) (hmono : E.mono = false) {r : PV}
  (h:∀ (g:Gh) (w:World) (vals:Array Value),(∀ b o v,g.S b o=some v→w.cell? ⟨b,o,none⟩=some v)→GOk E g→VL g args vals.toList→∃ v,V0 g.S r v∧Calls P f vals w fun e w'=>e= .returned v∧Below w.heap.size w w') :
  ∀ H,CallOk E P f args H r H:=by
 intro H g w vals hi hg hv
 obtain ⟨v,hv0,hc⟩:=h g w vals hi.st hg hv
 rw [Zz hf]
 refine Calls.mono hc fun e w' ⟨h1,hb⟩=>?_
 obtain ⟨j1,j2⟩:=Zbu hi (fun k hk=>hb.block k hk) hb.size ⟨hb.os,hb.output,hb.tape,fun hm=>absurd (hg.2.1 hm) (by rw [hmono];simp)⟩
 exact ⟨v,h1,g,.pure _ _ hv0,j1,j2⟩
end
section
variable {E:Env} {P:Program}
section frz
variable {g':Gh} {H':Heap} {w':World} {S:WT}
theorem Zju (hi' : Inv g' H' w') (hS : ∀ b o v, g'.S b o = some v → S b o = some v) (hO : ∀ id b o v, g'.σ id = some b → w'.cell? ⟨b, o, none⟩ = some v → S b o = some v)
  {id:Nat} (hp:V g' (.own id es 0 el.length) v) (hb:H'.bx[id]? = some (.cells es el)) (hl:el'.length=el.length) (hd:∀ i (h1:i<el.length) (h2:i<el'.length),X4 0 H' el[i]=some el'[i]):V0 S (.sl .none es el') v:=by
 obtain ⟨b,cap,ad,hσ,hc,ha,hsp,rfl⟩:=hp.own_inv
 obtain ⟨b',c,T,h1,h2,h3,h4,h5,h6⟩:=hi'.bx _ _ _ hb
 rw [hσ] at h1;cases h1
 rw [← hl] at hc ha ⊢
 obtain ⟨ab,ao,asp⟩:=ad
 simp only at hsp
 subst hsp
 by_cases h0:el'.length=0
 · exact .sl .none es el' ⟨ab,ao,none⟩ ab ao cap (fun _ _=>undef) (fun _=>rfl) (.inl rfl) hc (fun i hi=>by omega) (fun i j hi=>by omega) (fun i hi=>by omega)
 · have := ha (by omega)
   cases this
   have hrow:∀ i (hi:i<el'.length),(el'[i]).length=es∧∀ j (hj:j<(el'[i]).length),∃ u,c[i*es+j]? = some u∧V0 S ((el'[i])[j]) u:=fun i hi=>by
    have hi2:i<el.length:=by omega
    obtain ⟨q1,q2⟩:=ZaM (hd i hi2 hi)
    have hw:(el'[i]).length=es:=by rw [q1];exact h3 _ hi2
    refine ⟨hw,fun j hj=>?_⟩
    obtain ⟨u,x1,x2⟩:=h5 i hi2 j (by rw [h3 _ hi2];omega)
    exact ⟨u,x1,Zc9 hi' hS (fun id b o v _=>hO id b o v) x2 (q2 j (by rw [h3 _ hi2];omega) hj)⟩
   refine .sl .none es el' ⟨b,0*es,none⟩ b (0*es) cap (fun i j=>(c[i*es+j]?).getD undef) (fun _=>rfl) (.inl rfl) hc (fun i hi=>(hrow i hi).1) (fun i j hi hj=>?_) (fun i hi j hj=>?_)
   · obtain ⟨u, x1, -⟩ := (hrow i hi).2 j (by rw [(hrow i hi).1]; exact hj)
     refine hO id b _ _ hσ ?_
     simp [World.cell?,h2,x1]
   · obtain ⟨u, x1, x2⟩ := (hrow i hi).2 j hj
     simpa only [x1,Option.getD_some] using x2
end frz
theorem ZcK {f : FuncId} {args' : List PV} {id : Nat} {H' : Heap} (h : CallOk E P f args' hNil (.own id es 0 el.length) H') (ha : ZP args = some args') (hb : H'.bx[id]? = some (.cells es el)) (hl : el'.length = el.length)
  (hd:∀ i (h1:i<el.length) (h2:i<el'.length),X4 0 H' el[i]=some el'[i]) (H:Heap):CallOk E P f args H (.sl .none es el') H:=by
 intro g w vals hi hg hv
 obtain ⟨l1,l2⟩:=X8 ha
 have hv':VL (Zg9 g) args' vals.toList:=⟨by rw [l1];exact hv.1,fun i h1 h2=>V.pure (g:=Zg9 g) _ _ (show V0 g.S _ _ from Zbb (hv.2 i (by omega) h2) (l2 i (by omega) h1))⟩
 refine UponCall.mono (fun v w' ⟨g',hp,hi',k⟩=>?_) (h (Zg9 g) w vals (Zdy hi) hg hv')
 obtain ⟨i1,k1,hS⟩:=Qy hi k
 have hq:V0 (VU g w w').S (.sl .none es el') v:=Zju hi' (fun b o v h=>hS b o v h (hi'.st _ _ _ h)) (fun id b o v hσ hcell=>by
  have hb:w.heap.size≤b:=(k.new id b rfl hσ).elim (fun h=>h) fun ⟨_,_,a,_⟩=>(X9 a).elim
  simp [VU,Nat.not_lt.2 hb,hcell]) hp hb hl hd
 exact ⟨VU g w w',.pure _ _ hq,i1,k1⟩
end
section
variable {E:Env} {P:Program} {w:World}
theorem Zgq {f : FuncId} {c : Code} (hf : FnOk P f fn c) (hG : GOk E (wG w)) {r : PV} (h : CallOk E P f args hNil r hNil) {vals : Array Value} (hv : Va (wS w) args vals.toList) :
  Calls P f vals w fun e w'=>∃ v,e= .returned v∧(∃ g',V g' r v)∧GrownB w w'∧∀ k,k<w.heap.size→w'.heap[k]? = w.heap[k]? :=by
 have hu:=h (wG w) w vals (Zk6 w) hG ⟨hv.1,fun i h1 h2=> .pure _ _ (hv.2 i h1 h2)⟩
 rw [Zz hf] at hu
 exact Calls.mono hu fun e w' ⟨v,e1,g',hp,_,k⟩=>⟨v,e1,⟨g',hp⟩,ZaB k,fun i hi=>k.heap i hi (VI _ i)⟩
end
section
variable {P:Program} {H:Type} {enc:TypeId×Value→H} {w:World} {base:Nat} {spare:Nat→Bool} {held:Bool}
theorem Zhb {t e : TypeId} (ht : P.underlying t = some (.slice e)) (he : P.underlying e = some .string) (hs : P.cellsOf e = 1) (l : List (List UInt8)) (h0 : 0 < l.length) {fuel : Nat} {cs : List Value} {p : List MemPlace}
  (h:DataW.trod enc P w base spare held (fuel+1) t cs=some (.slice (l.map fun s=> .lit (.string s)) [],p)):Va (wS w) [.sl .none 1 (l.map fun s=>[.str s])] cs:=by
 rcases DataW.trod_slice ht h with ⟨rfl,hx⟩|⟨a,len,cap,elems,rest,m,hm,rfl,hx,hb,hl,hcap,hlen,hel, -, -⟩
 · simp at hx
 · cases hm
   simp only [Prod.mk.injEq,DataW.slice.injEq] at hx
   obtain ⟨⟨hx, -⟩, -⟩:=hx
   have hle:l.length=elems.length:=by
    have:=congrArg List.length hx
    simpa using this
   have hcell:∀ i (hi:i<l.length),∃ s:ByteArray,w.cell? (a.add i)=some (.string s)∧s.data.toList=l[i]:=fun i hi=>by
    have hy:=hel i (by omega)
    have hz:elems[i]? = some (elems[i]'(by omega)):=List.getElem?_eq_getElem (by omega)
    rw [hz,Option.bind_eq_some_iff] at hy
    obtain ⟨cs',hc1,hc2⟩:=hy
    rw [hs] at hc1
    cases fuel with
    | zero=>simp [DataW.trod] at hc2
    | succ n =>
      obtain ⟨s,rfl,he2, -⟩:=DataW.trod_string he hc2
      have:=(World.cells?_some hc1).2.2 0 (by omega)
      refine ⟨s,?_,?_⟩
      · simpa [Addr.add] using this
      · have e1 : (l.map fun s => DataW.lit (H := H) (.string s))[i]? = some (.lit (.string l[i])) := by simp [hi]
        rw [hx,List.getElem?_map,hz] at e1
        simp only [Option.map_some,he2,Option.some.injEq,DataW.lit.injEq,Lit.string.injEq] at e1
        exact e1
   have hspot:a=⟨a.block,a.off,none⟩:=by
    obtain ⟨s,h1, -⟩:=hcell 0 h0
    simp only [Addr.add,if_true] at h1
    obtain ⟨ab,ao,asp⟩:=a
    cases asp with
    | none=>rfl
    | some z =>
      simp only [World.cell?] at h1
      split at h1
      · simp at h1
      · cases h1
   have hll:(l.map fun s=>[PV.str s]).length=len:=by simp;omega
   refine ⟨rfl,fun k hi hj=>?_⟩
   obtain rfl:k=0:=by simp at hi;omega
   simp only [List.getElem_cons_zero]
   have key:V0 (wS w) (.sl .none 1 (l.map fun s=>[.str s])) (.slice (some a) (l.map fun s=>[PV.str s]).length cap):=by
    refine .sl .none 1 _ a a.block a.off cap (fun i _=>(w.cell? (a.add i)).getD undef) (fun _=>hspot) (.inl rfl) (by omega) (fun i hi=>by simp) (fun i j hi hj=>?_) (fun i hi j hj=>?_)
    · obtain rfl : j = 0 := by omega
      obtain ⟨s,h1, -⟩:=hcell i (by simpa using hi)
      simp only [wS]
      have e:a.add i=⟨a.block,a.off+i*1+0,none⟩:=by
       have e0:∀ A:Addr,A=⟨a.block,a.off,none⟩→A.add i=⟨a.block,a.off+i*1+0,none⟩:=fun A hA=>by rw [hA,ZM];simp
       exact e0 a hspot
      rw [← e,h1]
      rfl
    · obtain rfl : j = 0 := by simp at hj; omega
      obtain ⟨s,h1,h2⟩:=hcell i (by simpa using hi)
      rw [h1]
      simp only [Option.getD_some,List.getElem_map,List.getElem_cons_zero]
      exact .str _ _ h2
   rwa [hll] at key
end
