/-
  Maps whose keys are not known: looked up and changed, by facts; what a map of nu
-/
import Derived.Test.YtfiflgphoepgeaaGreatDoorFh
import Derived.Shelf.SlSortCmp.WholeK
import Derived.Lib.ItoaMem
namespace Go.Vm
variable {a a' b b' x:Tm} {kz ks l m:List Tm} {f f':Bool} {nm:Bs} {d es i ix j k k0 n0:Nat} {s:Int} {p q:PV} {all r:List Oper} {L bx:List Box} {g g2:Gh} {el el':List (List PV)} {v:Value} {args ax cs:List PV} {ty:TypeId} {pos:String} {aft:Array Edge} {grd:Option (Nat×Bool)} {H1:Heap} {ps:Array (Nat×Operand)}
mutual
theorem Vz:∀ a b:Tm,a.cl.cmp b.cl=a.cmp b
 | .mk k nm s n l, .mk k' nm' s' n' l' => by
   simp only [Tm.cl,Tm.cmp,VN,Vc,ZeX l l']
theorem ZeX:∀ l l':List Tm,W9 (clL l) (clL l')=W9 l l'
 | [],l'=>by cases l'<;>rfl
 |a::r,[]=>rfl
 | a :: r, b :: r' => by
   simp only [clL,W9,Vz a b,ZeX r r']
end
theorem ZbN (h:a.cl=a'.cl) (h':b.cl=b'.cl):a.cmp b=a'.cmp b':=by rw [← Vz a b,h,h',Vz]
theorem VK:∀ a b:List Tm,(Z2 a b).map Tm.cl=Z2 (a.map Tm.cl) (b.map Tm.cl)
 | [],b=>by simp only [Z2,List.map_nil]
 |x::a,[]=>by simp only [Z2,List.map_cons,List.map_nil]
 | x :: a, y :: b => by
   have h1:=VK a (y::b)
   have h2:=VK (x::a) b
   have h3:=VK a b
   simp only [List.map_cons] at h1 h2 ⊢
   rw [Z2,Z2,Vz]
   split
   · rw [List.map_cons,h1]
   · split
     · rw [List.map_cons,h2]
     · rw [h3]
termination_by a b=>a.length+b.length
theorem ZlN:clL l= []↔l= []:=by cases l<;>simp [clL]
mutual
theorem ZoW:∀ t:Tm,t.cl.sumP=t.sumP.map Tm.cl
 | .mk k nm s b kz => by
   simp only [Tm.cl]
   rw [Tm.sumP,Tm.sumP]
   simp only [ZlN]
   split
   · rfl
   · split
     · exact ZaY kz []
     · rfl
theorem ZaY:∀ (l o:List Tm),ZK (clL l) (o.map Tm.cl)=(ZK l o).map Tm.cl
 | [],o=>by simp only [clL,ZK]
 | t :: r, o => by
   simp only [clL,ZK]
   rw [ZoW t, ← VK]
   exact ZaY r _
end
def Zdm (m:Bool) (l:List Tm):List Tm:=if m=true then clL l else l
theorem ZfI (m:Bool) (l:List Tm):(Zdm m l).length=l.length:=by
 cases m
 · rfl
 · exact Vc l
def sumT (f:Bool):List Tm→Tm
 | []=> .mk 3 WK 0 f []
 | [x]=>x
 |x::y::r=> .mk 3 Zai 0 false (x::y::r)
theorem ZmA (f f':Bool) (l:List Tm):(sumT f (clL l)).cl=(sumT f' l).cl:=by
 match l with
 | []=>rfl
 | [x]=>simp only [clL,sumT,Zg7]
 |x::y::r=>simp only [clL,sumT,Tm.cl,Zg7,ZgS]
def Xe:List Tm→Int
 | []=>0
 |t::r=>if t.valid≠0 then t.valid else Xe r
def sumG (m:Bool) (l:List Tm):Tm×Int:=
 if 200<l.length then (.zero,3) else if Xe l≠0 then (.zero,Xe l) else if (sumT m (Zdm m (ZK l []))).valid≠0 then (.zero,3) else (sumT m (Zdm m (ZK l [])),0)
theorem ZcA:∀ {l m:List Tm},l.map Tm.cl=m.map Tm.cl→Xe l=Xe m
 | [],[],_=>rfl
 | [],_::_,h=>by simp at h
 |_::_,[],h=>by simp at h
 | a :: r, b :: q, h => by
   simp only [List.map_cons,List.cons.injEq] at h
   simp only [Xe,YV h.1,ZcA h.2]
theorem ZmU (h:l.map Tm.cl=m.map Tm.cl):(sumG true l).2=(sumG false m).2∧(sumG true l).1.cl=(sumG false m).1.cl:=by
 have hn:l.length=m.length:=by simpa using congrArg List.length h
 have hs:(ZK l []).map Tm.cl=(ZK m []).map Tm.cl:=by
  have a:=ZaY l []
  have b:=ZaY m []
  rw [List.map_nil] at a b
  rw [← a, ← b,YR,YR,h]
 have ht:(sumT true (Zdm true (ZK l []))).cl=(sumT false (Zdm false (ZK m []))).cl:=by
  show (sumT true (clL (ZK l []))).cl=(sumT false (ZK m [])).cl
  rw [YR,hs, ← YR]
  exact ZmA _ _ _
 unfold sumG
 rw [hn,ZcA h,YV ht]
 split; · exact ⟨rfl,rfl⟩
 split; · exact ⟨rfl,rfl⟩
 split; · exact ⟨rfl,rfl⟩
 exact ⟨rfl,ht⟩
def clP (x:Pw):Pw:=(x.1.cl,x.2)
theorem ZbL:∀ (l:List Pw) (t:Tm) (n:Int),(Ww l t n).map clP=Ww (l.map clP) t.cl n
 | [],t,n=>rfl
 | x :: r, t, n => by
   simp only [Ww,List.map_cons]
   have e1:(clP x).1.cmp t.cl=x.1.cmp t:=Vz _ _
   have e2:t.cl.cmp (clP x).1=t.cmp x.1:=Vz _ _
   have e3:(clP x).2=x.2:=rfl
   rw [e1,e2,e3]
   split
   · simp only [List.map_cons,ZbL r t n]
   · split
     · rfl
     · split<;>rfl
mutual
theorem ZlE:∀ (t:Tm) (n:Int) (l:List Pw),t.cl.col n (l.map clP)=(t.col n l).map (List.map clP)
 | .mk k nm s b kz, n, l => by
   simp only [Tm.cl,Tm.col,Vc]
   split
   · split
     · exact Zh5 kz _ l
     · rfl
   · simp only [Option.map_some]
     rw [ZbL]
     rfl
theorem Zh5:∀ (ts:List Tm) (n:Int) (l:List Pw),colL (clL ts) n (l.map clP)=(colL ts n l).map (List.map clP)
 | [],n,l=>by simp only [clL,colL,Option.map_some]
 | t :: r, n, l => by
   simp only [clL,colL,ZlE t n l]
   cases t.col n l with
   | none=>rfl
   | some l'=>exact Zh5 r n l'
end
def Tm.sym:Tm→Bool
 | .mk k nm _ _ _=>Zab k nm
def Z9 (n m:Int):Bool:=decide (n< -m)||decide (m<n)
def VY (p:Option Tm) (t:Tm):Bool:=match p with
 |none=>false
 |some q=>decide (0≤q.cmp t)
def pvL:Option Tm→List Pw→Int
 |_,[]=>0
 |p,x::r=>if x.1.valid≠0 then x.1.valid else if x.1.sym=true then 1 else if (decide (x.2=0)||Z9 x.2 1000)=true then 7 else if VY p x.1=true then 5 else pvL (some x.1) r
def pvG (l:List Pw):Int:=if 200<l.length then 3 else pvL none l
theorem Zi4:∀ (p:Option Tm) (l:List Pw),pvL p l=0→(∀ x,x∈l→x.2≠0∧x.1.valid=0∧x.1.sym=false∧VY p x.1=false)∧Vb l
 |p,[],_=>⟨fun x hx=>absurd hx (by simp),trivial⟩
 | p, x :: r, h => by
   simp only [pvL] at h
   split at h
   · rename_i h1;exact absurd h h1
   rename_i h1
   split at h
   · exact absurd h (by decide)
   rename_i h2
   split at h
   · exact absurd h (by decide)
   rename_i h3
   split at h
   · exact absurd h (by decide)
   rename_i h4
   obtain ⟨a,b⟩:=Zi4 (some x.1) r h
   have hx2:x.2≠0:=by
    intro e
    simp [e] at h3
   have hlt:∀ y,y∈r→x.1.cmp y.1<0:=fun y hy=>by
    have:=(a y hy).2.2.2
    simp only [VY,decide_eq_false_iff_not] at this
    omega
   refine ⟨fun y hy=>?_,⟨hx2,hlt⟩,b⟩
   rcases List.mem_cons.1 hy with rfl|hy
   · exact ⟨hx2,Classical.not_not.1 h1,by simpa using h2,by simpa using h4⟩
   · refine ⟨(a y hy).1, (a y hy).2.1, (a y hy).2.2.1, ?_⟩
     cases p with
     | none=>rfl
     | some q =>
       simp only [VY,decide_eq_true_eq,decide_eq_false_iff_not] at h4 ⊢
       have:=XG (a:=q) (b:=x.1) (c:=y.1) (by omega) (Int.le_of_lt (hlt y hy))
       omega
theorem UA {l:List Pw} (h:pvG l=0):Vb l∧∀ x,x∈l→x.2≠0:=by
 unfold pvG at h
 split at h
 · exact absurd h (by decide)
 obtain ⟨a,b⟩:=Zi4 none l h
 exact ⟨b,fun x hx=>(a x hx).1⟩
theorem ZnR (t:Tm):t.cl.sym=t.sym:=by cases t;rfl
theorem Zld:∀ (p:Option Tm) (l:List Pw),pvL (p.map Tm.cl) (l.map clP)=pvL p l
 |p,[]=>rfl
 | p, x :: r => by
   have e:VY (p.map Tm.cl) x.1.cl=VY p x.1:=by cases p<;>simp [VY,Vz]
   have ih:=Zld (some x.1) r
   simp only [Option.map_some] at ih
   simp only [List.map_cons,clP,pvL,Qc,ZnR,e]
   rw [ih]
theorem Zfu (l:List Pw):pvG (l.map clP)=pvG l:=by
 unfold pvG
 rw [List.length_map]
 exact congrArg _ (Zld none l)
def ofG (t:Tm):List Pw×Int:=if t.valid≠0 then ([],t.valid) else match t.col 1 [] with
 |none=>([],6)
 |some l=>if 200<l.length then ([],3) else (l,0)
def ofR (t:Tm):List Pw×Int:=if t.valid≠0 then ([],t.valid) else if t.ari=false then ([],6) else if 200<(t.colR 1 []).length then ([],3) else (t.colR 1 [],0)
theorem ZbF (t:Tm):ofG t=ofR t:=by
 obtain ⟨h1,h2⟩:=U4 t 1 [] trivial (by decide)
 unfold ofG ofR
 cases ha:t.ari with
 |true=>rw [(h1 ha).1,if_neg (by decide:¬ (true=false))]
 |false=>rw [h2 ha,if_pos rfl]
theorem ZnC (t:Tm):ofG t.cl=((ofG t).1.map clP,(ofG t).2):=by
 have h:=ZlE t 1 []
 rw [List.map_nil] at h
 unfold ofG
 rw [Qc,h]
 split
 · rfl
 · cases t.col 1 [] with
   | none=>rfl
   | some l =>
     simp only [Option.map_some,List.length_map]
     split<;>rfl
def insF (l:List Pw) (b:List Pw):List Pw:=b.foldl (fun l x=>Ww l x.1 x.2) l
def Zam (l:List Pw) (b:List Pw):List Pw:=b.foldl (fun l x=>Zi9 l x.1 x.2) l
theorem Zbj:∀ (b l:List Pw),Vb l→(∀ x,x∈b→x.2≠0)→Zam l b=insF l b
 | [],l,_,_=>rfl
 | x :: r, l, h, hb => by
   simp only [Zam,insF,List.foldl_cons]
   rw [U2 l _ _ h]
   exact Zbj r _ (U0 h (hb x List.mem_cons_self)) fun y hy=>hb y (List.mem_cons_of_mem _ hy)
theorem Zfk:∀ (b l:List Pw),(insF l b).map clP=insF (l.map clP) (b.map clP)
 | [],l=>rfl
 | x :: r, l => by
   simp only [insF,List.foldl_cons,List.map_cons]
   have:=Zfk r (Ww l x.1 x.2)
   rw [ZbL] at this
   exact this
def Zf3 (l:List Pw):List Pw×Int:=if l.any (fun x=>Z9 x.2 1000)=true then ([],7) else if 200<l.length then ([],3) else (l,0)
theorem Zl3 (l:List Pw):Zf3 (l.map clP)=((Zf3 l).1.map clP,(Zf3 l).2):=by
 have e:(l.map clP).any (fun x=>Z9 x.2 1000)=l.any (fun x=>Z9 x.2 1000):=by
  rw [List.any_map];rfl
 unfold Zf3
 rw [e,List.length_map]
 split
 · rfl
 · split<;>rfl
def Zlu (f:List Pw→List Pw→List Pw) (a b:List Pw):List Pw×Int:=if pvG a≠0 then ([],pvG a) else if pvG b≠0 then ([],pvG b) else Zf3 (f a b)
def Vp:List Pw→List Pw→List Pw×Int:=Zlu insF
def ZbO:List Pw→List Pw→List Pw×Int:=Zlu Zam
theorem ZeA (a b:List Pw):Vp a b=ZbO a b:=by
 unfold Vp ZbO Zlu
 by_cases h:pvG a=0
 · by_cases h' : pvG b = 0
   · rw [Zbj b a (UA h).1 (UA h').2]
   · rw [if_neg (not_not_intro h),if_neg (not_not_intro h),if_pos h',if_pos h']
 · rw [if_pos h,if_pos h]
theorem ZkX (a b:List Pw):Vp (a.map clP) (b.map clP)=((Vp a b).1.map clP,(Vp a b).2):=by
 unfold Vp Zlu
 rw [Zfu,Zfu, ← Zfk,Zl3]
 split
 · rfl
 · split<;>rfl
def Zfz (x:Tm):Tm:= .mk 3 WJ 0 false [x]
def UW (l:List Pw):List Tm:=l.flatMap fun x=>List.replicate x.2.toNat x.1
def Zay (l:List Pw):List Tm:=l.flatMap fun x=>List.replicate (-x.2).toNat (Zfz x.1)
def Wx (l:List Pw):List Tm:=UW l++Zay l
def prodT (f:Bool):List Tm→Tm
 | []=> .mk 3 VF 0 f []
 | [x]=>x
 |x::y::r=> .mk 3 Vi 0 false (x::y::r)
def Zko (f:Bool) (l:List Pw):Tm×Int:=if 8<(Wx l).length then (.zero,3) else if (prodT f (Wx l)).valid≠0 then (.zero,(prodT f (Wx l)).valid) else (prodT f (Wx l),0)
def termG (f:Bool) (l:List Pw):Tm×Int:=if pvG l≠0 then (.zero,pvG l) else Zko f l
def XQ (f:Bool) (l:List Pw):Tm×Int:=if pvG l≠0 then (.zero,pvG l) else if l.any (fun x=>Z9 x.2 8)=true then (.zero,3) else Zko f l
def XN (f:Bool) (l:List Pw):Tm×Int:=if pvG l≠0 then (.zero,pvG l) else if 8<((Wx l).take 9).length then (.zero,3) else if (prodT f ((Wx l).take 9)).valid≠0 then (.zero,(prodT f ((Wx l).take 9)).valid) else (prodT f ((Wx l).take 9),0)
theorem Zbh {α β:Type} {f:α→List β} {x:α}:∀ {l:List α},x∈l→(f x).length≤(l.flatMap f).length
 | y :: r, h => by
   rw [List.flatMap_cons,List.length_append]
   rcases List.mem_cons.1 h with rfl|h
   · omega
   · have := Zbh (f := f) h
     omega
theorem Ziq (f:Bool) (l:List Pw):XQ f l=termG f l:=by
 unfold XQ termG
 by_cases h:l.any (fun x=>Z9 x.2 8)=true
 · obtain ⟨x, hx, ho⟩ := List.any_eq_true.1 h
   have h9:8<(Wx l).length:=by
    have h1:=Zbh (f:=fun x:Pw=>List.replicate x.2.toNat x.1) hx
    have h2:=Zbh (f:=fun x:Pw=>List.replicate (-x.2).toNat (Zfz x.1)) hx
    simp only [List.length_replicate] at h1 h2
    simp only [Z9,Bool.or_eq_true,decide_eq_true_eq] at ho
    simp only [Wx,UW,Zay,List.length_append]
    omega
   rw [if_pos h]
   unfold Zko
   rw [if_pos h9]
 · rw [if_neg h]
theorem ZgQ (f:Bool) (l:List Pw):XN f l=termG f l:=by
 unfold XN termG Zko
 by_cases h:8<(Wx l).length
 · have h9 : 8 < ((Wx l).take 9).length := by rw [List.length_take]; omega
   rw [if_pos h,if_pos h9]
 · rw [List.take_of_length_le (by omega)]
theorem ZkG (n:Nat) (x:Tm):(List.replicate n x).map Tm.cl=List.replicate n x.cl:=List.map_replicate
theorem Zmr (l:List Pw):UW (l.map clP)=(UW l).map Tm.cl:=by
 simp only [UW,List.flatMap_map,List.map_flatMap,ZkG,clP]
theorem Zm8 (l:List Pw):(Zay (l.map clP)).map Tm.cl=(Zay l).map Tm.cl:=by
 simp only [Zay,List.flatMap_map,List.map_flatMap,ZkG,clP,Zfz,Tm.cl,clL,Zg7]
theorem Zg4 (l:List Pw):(Wx (l.map clP)).map Tm.cl=(Wx l).map Tm.cl:=by
 simp only [Wx,List.map_append,Zmr,Zm8,List.map_map]
 congr 1
 exact List.map_congr_left fun x _=>Zg7 x
theorem ZjU (h:l.map Tm.cl=m.map Tm.cl):(prodT f l).cl=(prodT f' m).cl:=by
 match l,m,h with
 | [],[],_=>rfl
 | [],_::_,h=>simp at h
 |_::_,[],h=>simp at h
 | [x],[y],h=>simpa [prodT] using h
 | [x],_::_::_,h=>simp at h
 |_::_::_,[x],h=>simp at h
 | x :: y :: r, x' :: y' :: r', h =>
   simp only [prodT,Tm.cl,YR,h]
theorem Zfn {l m:List Pw} (h:l.map clP=m.map clP):(termG f l).2=(termG f' m).2∧(termG f l).1.cl=(termG f' m).1.cl:=by
 have e1:pvG l=pvG m:=by rw [← Zfu l,h,Zfu]
 have e2:(Wx l).map Tm.cl=(Wx m).map Tm.cl:=by rw [← Zg4 l,h,Zg4]
 have e3:(Wx l).length=(Wx m).length:=by simpa using congrArg List.length e2
 have e4:=ZjU (f:=f) (f':=f') e2
 unfold termG Zko
 rw [e1,e3,YV e4]
 split; · exact ⟨rfl,rfl⟩
 split; · exact ⟨rfl,rfl⟩
 split; · exact ⟨rfl,rfl⟩
 exact ⟨rfl,e4⟩
def Tm.kd:Tm→Nat→Tm
 | .mk _ _ _ _ kz,i=>kz.getD i .zero
def isA:Tm→Bs→Bool
 | .mk k n _ _ _,nm=>decide (k=3)&&(n==nm)
theorem Uf (l:List Tm) (i:Nat):(l.map Tm.cl).getD i .zero=(l.getD i .zero).cl:=by
 simp only [List.getD_eq_getElem?_getD,List.getElem?_map]
 cases l[i]? <;> rfl
theorem ZnK (t:Tm) (i:Nat):t.cl.kd i=(t.kd i).cl:=by
 cases t
 simp only [Tm.cl,Tm.kd,YR,Uf]
theorem Zlv (t:Tm) (nm:Bs):isA t.cl nm=isA t nm:=by cases t;rfl
theorem UR (h:a.cl=b.cl) (i:Nat):(a.kd i).cl=(b.kd i).cl:=by rw [← ZnK,h,ZnK]
theorem UF (h:a.cl=b.cl) (nm:Bs):isA a nm=isA b nm:=by rw [← Zlv,h,Zlv]
def Vw:Bs:=[102,115,116]
def Vg:Bs:=[115,110,100]
def W6:Bs:=[100,101,99]
def Yx:Bs:=[97,100,101,99]
def Yz:Bs:=[111,112,101,110]
def YU:Bs:=[114,101,97,100]
def Zbc:Bs:=[101,110,99]
def Wa:Bs:=[97,101,110,99]
def pkN:Bs:=[112,107]
def YE:Bs:=[101,120,112]
def Zdp (nm:Bs) (a key:Tm):Bool:=
 ((nm==Vw)&&isA a Y0)||((nm==Vg)&&isA a Y0)||((nm==W6)&&isA a Zbc&&decide ((a.kd 1).cmp key=0)) ||
 ((nm==Yx)&&isA a Wa&&isA (a.kd 1) pkN&&decide (((a.kd 1).kd 0).cmp key=0)) ||
 ((nm==Yz)&&isA a YT&&isA key pkN&&decide ((a.kd 1).cmp (key.kd 0)=0))||((nm==YU)&&isA a YT)
def Zog (nm:Bs) (a key:Tm):Bool:=
 ((nm==Vw)&&isA a Y0)||((nm==Vg)&&isA a Y0)||((nm==W6)&&isA a Zbc&&decide ((a.kd 1).cmp key=0)) ||
 ((nm==Yx)&&isA a Wa&&decide ((a.kd 1).cmp (.mk 3 pkN 0 true [key])=0)) ||
 ((nm==Yz)&&isA a YT&&decide (key.cmp (.mk 3 pkN 0 true [a.kd 1])=0))||((nm==YU)&&isA a YT)
def Zb3 (f:Bs→Tm→Tm→Bool) (t:Tm):Tm:=if f t.nm (t.kd 0) (t.kd 1)=true then (t.kd 0).kd (if t.nm=Vg then 1 else 0) else t
def Xl:Tm→Tm:=Zb3 Zdp
theorem ZqH (h:a.cl=b.cl):a.nm=b.nm:=by rw [← ZoM,h,ZoM]
theorem Zm9 {k k':Tm} (h:a.cl=a'.cl) (hk:k.cl=k'.cl):Zdp nm a k=Zdp nm a' k':=by
 unfold Zdp
 rw [UF h,UF h,UF h,UF h,UF (UR h 1),UF hk,ZbN (UR h 1) hk,ZbN (UR (UR h 1) 0) hk,ZbN (UR h 1) (UR hk 0)]
theorem Znr (h:a.cl=b.cl):(Xl a).cl=(Xl b).cl:=by
 unfold Xl Zb3
 rw [Zm9 (UR h 0) (UR h 1),ZqH h]
 split
 · exact UR (UR h 0) _
 · exact h
def Zl2 (nm:Bs) (n:Nat):Bool:=(if (nm==Y0)||(nm==Zbc)||(nm==Wa)||(nm==YT)||(nm==YE) then decide (n=2) else true)&&(if nm==pkN then decide (n=1) else true)
mutual
def Tm.okA:Tm→Bool
 | .mk k nm s _ kz=>(if k=3 then decide (s=0)&&Zl2 nm kz.length else true)&&Zgm kz
def Zgm:List Tm→Bool
 | []=>true
 |t::r=>t.okA&&Zgm r
end
theorem Zbl:∀ l:List Tm,Zgm l=true↔∀ x,x∈l→x.okA=true
 | []=>by simp [Zgm]
 |t::r=>by simp [Zgm,Zbl r]
theorem VM {k:Int} {b:Bool} (h:(Tm.mk k nm s b kz).okA=true):∀ x,x∈kz→x.okA=true:=by
 simp only [Tm.okA,Bool.and_eq_true] at h
 exact (Zbl kz).1 h.2
theorem Zjl (h:∀ x,x∈l→x.okA=true) (i:Nat):(l.getD i .zero).okA=true:=by
 rw [List.getD_eq_getElem?_getD]
 cases e:l[i]? with
 |none=>rfl
 |some x=>exact h x (List.mem_of_getElem? e)
theorem ZiU {t:Tm} (h:t.okA=true) (i:Nat):(t.kd i).okA=true:=by
 cases t
 exact Zjl (VM h) i
theorem Zit {t:Tm} (h:t.okA=true) (hp:isA t pkN=true):∃ b x,t= .mk 3 pkN 0 b [x]:=by
 obtain ⟨k,nm,s,b,kz⟩:=t
 simp only [isA,Bool.and_eq_true,decide_eq_true_eq,beq_iff_eq] at hp
 obtain ⟨rfl,rfl⟩:=hp
 simp only [Tm.okA,if_pos,Bool.and_eq_true,decide_eq_true_eq] at h
 obtain ⟨⟨rfl,h1⟩,_⟩:=h
 have h2:kz.length=1:=by
  simp only [Zl2,Bool.and_eq_true] at h1
  have:=h1.2
  simpa using this
 match kz,h2 with
 | [x],_=>exact ⟨b,x,rfl⟩
theorem Zlj (h:a.okA=true):decide (a.cmp (.mk 3 pkN 0 true [x])=0)=(isA a pkN&&decide ((a.kd 0).cmp x=0)):=by
 by_cases hp:isA a pkN=true
 · obtain ⟨b, y, rfl⟩ := Zit h hp
   rw [hp,Bool.true_and]
   refine decide_eq_decide.2 ?_
   rw [XF,XF]
   simp only [Tm.cl,clL,Tm.kd,List.getD_cons_zero,Tm.mk.injEq,List.cons.injEq,and_true,true_and]
 · rw [Bool.eq_false_iff.2 hp, Bool.false_and, decide_eq_false_iff_not]
   intro e
   rw [XF] at e
   exact hp (by rw [UF e];rfl)
theorem ZjN {key:Tm} (ha:a.okA=true) (hk:key.okA=true):Zog nm a key=Zdp nm a key:=by
 have e1:=Zlj (x:=key) (ZiU ha 1)
 have e2:=Zlj (x:=a.kd 1) hk
 have e3:decide ((key.kd 0).cmp (a.kd 1)=0)=decide ((a.kd 1).cmp (key.kd 0)=0):=decide_eq_decide.2 Zjc
 unfold Zog Zdp
 rw [e1,e2,e3]
 simp only [Bool.and_assoc]
theorem ZfJ {t:Tm} (h:t.okA=true):Zb3 Zog t=Xl t:=by
 unfold Xl Zb3
 rw [ZjN (ZiU h 0) (ZiU h 1)]
def Q0 (f:Bool) (t:Tm):Tm×Int:=if (ofG t).2≠0 then (.zero,(ofG t).2) else termG f (ofG t).1
def QG (f:Bool) (b:Tm) (p:List Pw):Tm×Int:=if p.isEmpty=true then (b,0) else if (termG f p).2≠0 then (.zero,(termG f p).2) else (.mk 3 YE 0 f [b,(termG f p).1],0)
def Wq (f:Bool) (b e:Tm):Tm×Int:=if (ofG e).2≠0 then (.zero,(ofG e).2) else if isA b YE=true then (if (ofG (b.kd 1)).2≠0 then (.zero,(ofG (b.kd 1)).2) else if (Vp (ofG (b.kd 1)).1 (ofG e).1).2≠0 then (.zero,(Vp (ofG (b.kd 1)).1 (ofG e).1).2) else QG f (b.kd 0) (Vp (ofG (b.kd 1)).1 (ofG e).1).1) else QG f b (ofG e).1
theorem Zm4 (h:a.cl=b.cl):(ofG a).2=(ofG b).2∧(ofG a).1.map clP=(ofG b).1.map clP:=by
 have h1:=ZnC a
 have h2:=ZnC b
 rw [h,h2] at h1
 injection h1 with e1 e2
 exact ⟨e2.symm,e1.symm⟩
theorem Zoz {a b a' b':List Pw} (h:a.map clP=a'.map clP) (h':b.map clP=b'.map clP):(Vp a b).2=(Vp a' b').2∧(Vp a b).1.map clP=(Vp a' b').1.map clP:=by
 have h1:=ZkX a b
 have h2:=ZkX a' b'
 rw [h,h',h2] at h1
 injection h1 with e1 e2
 exact ⟨e2.symm,e1.symm⟩
theorem Zo5 (h:a.cl=b.cl):(Q0 f a).2=(Q0 f' b).2∧(Q0 f a).1.cl=(Q0 f' b).1.cl:=by
 obtain ⟨e1,e2⟩:=Zm4 h
 unfold Q0
 rw [e1]
 split
 · exact ⟨rfl,rfl⟩
 · exact Zfn e2
theorem ZkV {p p':List Pw} (h:b.cl=b'.cl) (hp:p.map clP=p'.map clP):(QG f b p).2=(QG f' b' p').2∧(QG f b p).1.cl=(QG f' b' p').1.cl:=by
 obtain ⟨e1,e2⟩:=Zfn (f:=f) (f':=f') hp
 have e3:p.isEmpty=p'.isEmpty:=by cases p<;>cases p'<;>simp_all
 unfold QG
 rw [e1,e3]
 split; · exact ⟨rfl,h⟩
 split; · exact ⟨rfl,rfl⟩
 exact ⟨rfl,by simp only [Tm.cl,clL,h,e2]⟩
theorem Zny {e e':Tm} (h:b.cl=b'.cl) (he:e.cl=e'.cl):(Wq f b e).2=(Wq f' b' e').2∧(Wq f b e).1.cl=(Wq f' b' e').1.cl:=by
 obtain ⟨e1,e2⟩:=Zm4 he
 obtain ⟨e3,e4⟩:=Zm4 (UR h 1)
 obtain ⟨e5,e6⟩:=Zoz e4 e2
 unfold Wq
 rw [e1,UF h,e3,e5]
 split; · exact ⟨rfl,rfl⟩
 split
 · split; · exact ⟨rfl, rfl⟩
   split; · exact ⟨rfl,rfl⟩
   exact ZkV (UR h 0) e6
 · exact ZkV h e2
def YL (m:Bool) (nm:Bs) (ks:List Tm):Tm×Int:=
 if (Yo nm).kind=3 then (Xl (.mk 3 nm 0 m ks),0) else if nm=Zai then sumG m ks else if Zab 3 nm=true then Q0 m (.mk 3 nm 0 m ks) else if nm=YE then Wq m (ks.getD 0 .zero) (ks.getD 1 .zero) else (.mk 3 nm 0 m ks,0)
mutual
def Tm.nrm (c:Bool):Tm→Tm×Int
 | .mk k nm s b kz=>if k≠3 then (.mk k nm s b kz,0) else if (nrmL c kz).2≠0 then (.zero,(nrmL c kz).2) else YL c nm (nrmL c kz).1
def nrmL (c:Bool):List Tm→List Tm×Int
 | []=>([],0)
 |t::r=>if (t.nrm c).2≠0 then ([],(t.nrm c).2) else if (nrmL c r).2≠0 then ([],(nrmL c r).2) else ((t.nrm c).1::(nrmL c r).1,0)
end
theorem ZlY (h:l.map Tm.cl=m.map Tm.cl):(YL true nm l).2=(YL false nm m).2∧(YL true nm l).1.cl=(YL false nm m).1.cl:=by
 have ht:(Tm.mk 3 nm 0 true l).cl=(Tm.mk 3 nm 0 false m).cl:=by simp only [Tm.cl,YR,h]
 unfold YL
 split; · exact ⟨rfl,Znr ht⟩
 split; · exact ZmU h
 split; · exact Zo5 ht
 split
 · exact Zny (by rw [← Uf,h,Uf]) (by rw [← Uf,h,Uf])
 · exact ⟨rfl,ht⟩
mutual
theorem Zfh:∀ t u:Tm,t.cl=u.cl→(t.nrm true).2=(u.nrm false).2∧(t.nrm true).1.cl=(u.nrm false).1.cl
 | .mk k nm s b kz, .mk k' nm' s' b' kz', h => by
   have h0:=h
   simp only [Tm.cl,Tm.mk.injEq] at h
   obtain ⟨rfl,rfl,rfl, -,hk⟩:=h
   obtain ⟨e1,e2⟩:=Zcq kz kz' hk
   simp only [Tm.nrm]
   rw [e1]
   split; · exact ⟨rfl,h0⟩
   split; · exact ⟨rfl,rfl⟩
   exact ZlY e2
theorem Zcq:∀ l m:List Tm,clL l=clL m→(nrmL true l).2=(nrmL false m).2∧(nrmL true l).1.map Tm.cl=(nrmL false m).1.map Tm.cl
 | [],[],_=>⟨rfl,rfl⟩
 | [],_::_,h=>by simp [clL] at h
 |_::_,[],h=>by simp [clL] at h
 | t :: r, u :: q, h => by
   simp only [clL,List.cons.injEq] at h
   obtain ⟨a1,a2⟩:=Zfh t u h.1
   obtain ⟨b1,b2⟩:=Zcq r q h.2
   simp only [nrmL]
   rw [a1,b1]
   split; · exact ⟨rfl,rfl⟩
   split; · exact ⟨rfl,rfl⟩
   exact ⟨rfl,by simp only [List.map_cons,a2,b2]⟩
end
def Tm.nf (c:Bool) (t:Tm):Tm×Int:=if t.valid≠0 then (.zero,t.valid) else if t.th≠0 then (.zero,t.th) else if (t.nrm c).2≠0 then (.zero,(t.nrm c).2) else if (t.nrm c).1.valid≠0 then (.zero,(t.nrm c).1.valid) else ((t.nrm c).1,0)
mutual
theorem Zh9:∀ t:Tm,t.cl.th=t.th
 | .mk k nm s b kz => by
   have e:X9 nm (clL kz)=X9 nm kz:=by
    unfold X9
    split
    · cases kz with
      | nil=>rfl
      | cons a r=>cases a;rfl
    · rw [YR, List.all_map]
      congr 1
      funext x
      cases x;rfl
   simp only [Tm.cl,Tm.th,Vc,e,ZkI kz]
theorem ZkI:∀ l:List Tm,thL (clL l)=thL l
 | []=>rfl
 |t::r=>by simp only [clL,thL,Zh9 t,ZkI r]
end
theorem ZlL {t u:Tm} (h:t.cl=u.cl):(t.nf true).2=(u.nf false).2∧(t.nf true).1.cl=(u.nf false).1.cl:=by
 obtain ⟨e1,e2⟩:=Zfh t u h
 have e3:t.th=u.th:=by rw [← Zh9,h,Zh9]
 unfold Tm.nf
 rw [YV h,e3,e1,YV e2]
 split; · exact ⟨rfl,rfl⟩
 split; · exact ⟨rfl,rfl⟩
 split; · exact ⟨rfl,rfl⟩
 split; · exact ⟨rfl,rfl⟩
 exact ⟨rfl,e2⟩
def Tm.dsB (t:Tm):Bool:=t.all.all fun x=>match x with| .mk k nm _ _ _=> !(decide (k=3)&&decide ((Yo nm).kind=3))
def Tm.plainB (c:Bool) (t:Tm):Bool:=decide ((t.nf c).2=0)&&decide ((t.nf c).1.cmp t=0)&&t.dsB
theorem ZfW (t:Tm):t.plainB true=t.plainB false:=by
 obtain ⟨e1,e2⟩:=ZlL (t:=t) rfl
 unfold Tm.plainB
 rw [e1,ZbN e2 rfl]
structure Kin (P:Tm→Prop):Prop where
 kid:∀ {k:Int} {nm:Bs} {s:Int} {b:Bool} {kz:List Tm},P (.mk k nm s b kz)→∀ x,x∈kz→P x
 app:∀ {nm:Bs} {b:Bool} {ks:List Tm},nm.length≤24→ks.length≤1000000→Zl2 nm ks.length=true→(∀ x,x∈ks→P x)→P (.mk 3 nm 0 b ks)
 zero:P .zero
 cl:∀ {t:Tm},P t→P t.cl
theorem ZpA {t:Tm} (h:t.Ok):t.cl.Ok:=by
 induction h with
 | mk hk hs hn hl _ ih =>
   simp only [Tm.cl,YR]
   refine .mk hk hs hn (by rw [List.length_map];exact hl) fun t ht=>?_
   obtain ⟨x,hx,rfl⟩:=List.mem_map.1 ht
   exact ih x hx
theorem cls_ok:Kin Tm.Ok where
 kid h x hx:=h.kid hx
 app hn hl _ h:= .mk (by decide) (by decide) (Nat.le_trans hn (by decide)) (Nat.le_trans hl (by decide)) h
 zero:=Tm.ok_zero
 cl:=ZpA
mutual
theorem ZkY:∀ t:Tm,t.cl.okA=t.okA
 | .mk k nm s b kz=>by simp only [Tm.cl,Tm.okA,Vc,Zgu kz]
theorem Zgu:∀ l:List Tm,Zgm (clL l)=Zgm l
 | []=>rfl
 |t::r=>by simp only [clL,Zgm,ZkY t,Zgu r]
end
theorem cls_okA:Kin fun t=>t.okA=true where
 kid h x hx:=VM h x hx
 app _ _ ha h:=by
  simp only [Tm.okA,ha,if_pos,decide_true,Bool.and_self,Bool.true_and]
  exact (Zbl _).2 h
 zero:=rfl
 cl {t} h:=by rw [ZkY];exact h
set_option linter.unusedSectionVars false
section
variable {P:Tm→Prop} (C:Kin P)
include C
theorem Kin.kd {t:Tm} (h:P t) (i:Nat):P (t.kd i):=by
 cases t
 rename_i kz
 simp only [Tm.kd,List.getD_eq_getElem?_getD]
 cases e:kz[i]? with
 |none=>exact C.zero
 |some x=>exact C.kid h x (List.mem_of_getElem? e)
theorem Kin.getD {l:List Tm} (h:∀ x,x∈l→P x) (i:Nat):P (l.getD i .zero):=by
 rw [List.getD_eq_getElem?_getD]
 cases e:l[i]? with
 |none=>exact C.zero
 |some x=>exact h x (List.mem_of_getElem? e)
mutual
theorem Kin.sum:∀ t:Tm,P t→∀ z,z∈t.sumP→P z
 | .mk k nm s b kz, h, z, hz => by
   rw [Tm.sumP] at hz
   split at hz
   · simp at hz
   · split at hz
     · exact Kin.sumL kz [] (C.kid h) (fun x hx=>by simp at hx) z hz
     · rw [List.mem_singleton] at hz
       subst hz
       exact h
theorem Kin.sumL:∀ l o:List Tm,(∀ x,x∈l→P x)→(∀ x,x∈o→P x)→∀ z,z∈ZK l o→P z
 | [], o, _, ho, z, hz => by
   rw [ZK] at hz
   exact ho z hz
 | t :: r, o, hl, ho, z, hz => by
   rw [ZK] at hz
   refine Kin.sumL r _ (fun x hx=>hl x (List.mem_cons_of_mem _ hx)) (fun x hx=>?_) z hz
   rcases XC _ _ x hx with hx|hx
   · exact ho x hx
   · exact Kin.sum t (hl t List.mem_cons_self) x hx
end
theorem Kin.sumT {f:Bool} {l:List Tm} (h:∀ x,x∈l→P x) (hl:l.length≤1000000):P (sumT f l):=by
 match l,h,hl with
 | [],_,_=>exact C.app (by decide) (by decide) rfl (fun x hx=>by simp at hx)
 | [x],h,_=>exact h x List.mem_cons_self
 |x::y::r,h,hl=>exact C.app (by decide) hl rfl h
omit C in
theorem Kin.ins {l:List Pw} {t:Tm} {n:Int} (hl:∀ x,x∈l→P x.1) (ht:P t):∀ z,z∈Ww l t n→P z.1:=fun z hz=>by
 rcases Zbi l t n z hz with h|h|⟨y,h1,h2⟩
 · exact hl z h
 · rw [h];exact ht
 · rw [← h2];exact hl y h1
mutual
theorem Kin.col:∀ (t:Tm) (n:Int) (l l':List Pw),P t→(∀ x,x∈l→P x.1)→t.col n l=some l'→∀ x,x∈l'→P x.1
 | .mk k nm s b kz, n, l, l', ht, hl, h => by
   rw [Tm.col] at h
   split at h
   · split at h
     · exact Kin.colL kz _ l l' (C.kid ht) hl h
     · exact absurd h (by simp)
   · cases h
     exact Kin.ins hl ht
theorem Kin.colL:∀ (ts:List Tm) (n:Int) (l l':List Pw),(∀ x,x∈ts→P x)→(∀ x,x∈l→P x.1)→Go.Vm.colL ts n l=some l'→∀ x,x∈l'→P x.1
 | [], n, l, l', _, hl, h => by
   rw [Go.Vm.colL] at h
   cases h
   exact hl
 | t :: r, n, l, l', ht, hl, h => by
   rw [Go.Vm.colL] at h
   cases e:t.col n l with
   | none=>rw [e] at h;exact absurd h (by simp)
   | some m =>
     rw [e] at h
     exact Kin.colL r n m l' (fun x hx=>ht x (List.mem_cons_of_mem _ hx)) (Kin.col t n l m (ht t List.mem_cons_self) hl e) h
end
theorem Kin.of {t:Tm} (h:P t):∀ x,x∈(ofG t).1→P x.1:=by
 unfold ofG
 split
 · intro x hx;simp at hx
 · split
   · intro x hx;simp at hx
   · rename_i l e
     split
     · intro x hx;simp at hx
     · exact C.col t 1 [] l h (fun x hx=>by simp at hx) e
omit C in
theorem Kin.insF:∀ (b l:List Pw),(∀ x,x∈l→P x.1)→(∀ x,x∈b→P x.1)→∀ x,x∈Go.Vm.insF l b→P x.1
 | [],_,h,_=>h
 |y::r,_,h,hb=>Kin.insF r _ (Kin.ins h (hb y List.mem_cons_self)) fun x hx=>hb x (List.mem_cons_of_mem _ hx)
theorem Kin.mul {a b:List Pw} (ha:∀ x,x∈a→P x.1) (hb:∀ x,x∈b→P x.1):∀ x,x∈(Vp a b).1→P x.1:=by
 unfold Vp Zlu Zf3
 split; · intro x hx;simp at hx
 split; · intro x hx;simp at hx
 split; · intro x hx;simp at hx
 split; · intro x hx;simp at hx
 exact Kin.insF b a ha hb
theorem Kin.ops {l:List Pw} (h:∀ x,x∈l→P x.1):∀ z,z∈Wx l→P z:=fun z hz=>by
 rcases List.mem_append.1 hz with hz|hz
 · obtain ⟨x, hx, hz⟩ := List.mem_flatMap.1 hz
   rw [(List.mem_replicate.1 hz).2]
   exact h x hx
 · obtain ⟨x, hx, hz⟩ := List.mem_flatMap.1 hz
   rw [(List.mem_replicate.1 hz).2]
   refine C.app (by decide) (by simp) rfl fun y hy=>?_
   rw [List.mem_singleton] at hy
   subst hy
   exact h x hx
theorem Kin.prodT {f:Bool} {l:List Tm} (h:∀ x,x∈l→P x) (hl:l.length≤1000000):P (prodT f l):=by
 match l,h,hl with
 | [],_,_=>exact C.app (by decide) (by decide) rfl (fun x hx=>by simp at hx)
 | [x],h,_=>exact h x List.mem_cons_self
 |x::y::r,h,hl=>exact C.app (by decide) hl rfl h
theorem Kin.termG {f:Bool} {l:List Pw} (h:∀ x,x∈l→P x.1):P (termG f l).1:=by
 unfold Go.Vm.termG Zko
 split; · exact C.zero
 split; · exact C.zero
 rename_i h8
 split; · exact C.zero
 exact C.prodT (C.ops h) (by omega)
theorem Kin.prd {t:Tm} (h:P t):P (Q0 f t).1:=by
 unfold Q0
 split; · exact C.zero
 exact C.termG (C.of h)
theorem Kin.fin {p:List Pw} (hb:P b) (hp:∀ x,x∈p→P x.1):P (QG f b p).1:=by
 unfold QG
 split; · exact hb
 split; · exact C.zero
 refine C.app (by decide) (by simp) rfl fun y hy=>?_
 simp only [List.mem_cons,List.not_mem_nil,or_false] at hy
 rcases hy with rfl|rfl
 · exact hb
 · exact C.termG hp
theorem Kin.rse {e:Tm} (hb:P b) (he:P e):P (Wq f b e).1:=by
 unfold Wq
 split; · exact C.zero
 split
 · split; · exact C.zero
   split; · exact C.zero
   exact C.fin (C.kd hb 0) (C.mul (C.of (C.kd hb 1)) (C.of he))
 · exact C.fin hb (C.of he)
theorem Kin.dst {t:Tm} (h:P t):P (Xl t):=by
 unfold Xl Zb3
 split
 · exact C.kd (C.kd h 0) _
 · exact h
end
theorem VS:∀ a b:List Tm,(Z2 a b).length≤a.length+b.length
 | [],b=>by rw [Z2];simp
 |x::a,[]=>by rw [Z2];simp
 | x :: a, y :: b => by
   have h1:=VS a (y::b)
   have h2:=VS (x::a) b
   have h3:=VS a b
   simp only [List.length_cons] at *
   rw [Z2]
   split
   · rw [List.length_cons];omega
   · split
     · rw [List.length_cons];omega
     · omega
termination_by a b=>a.length+b.length
mutual
theorem VZ:∀ t:Tm,t.sumP.length≤t.size
 | .mk k nm s b kz => by
   rw [Tm.sumP,Tm.size]
   split
   · simp
   · split
     · have := Y6 kz []
       simp only [List.length_nil] at this
       omega
     · simp only [List.length_singleton];omega
theorem Y6:∀ l o:List Tm,(ZK l o).length≤o.length+Zl l
 | [],o=>by rw [ZK];omega
 | t :: r, o => by
   have h1:=Y6 r (Z2 o t.sumP)
   have h2:=VS o t.sumP
   have h3:=VZ t
   rw [ZK,Zl]
   omega
end
theorem Zbu:∀ (l:List Pw) (t:Tm) (n:Int),(Ww l t n).length≤l.length+1
 | [],t,n=>by simp [Ww]
 | x :: r, t, n => by
   have:=Zbu r t n
   simp only [Ww]
   split
   · simp only [List.length_cons];omega
   · split
     · simp
     · split<;>simp only [List.length_cons]<;>omega
mutual
theorem ZdU:∀ (t:Tm) (n:Int) (l l':List Pw),t.col n l=some l'→l'.length≤l.length+t.size
 | .mk k nm s b kz, n, l, l', h => by
   rw [Tm.col] at h
   rw [Tm.size]
   split at h
   · split at h
     · have := ZbZ kz _ l l' h
       omega
     · exact absurd h (by simp)
   · cases h
     have:=Zbu l (.mk k nm s b kz) n
     omega
theorem ZbZ:∀ (ts:List Tm) (n:Int) (l l':List Pw),colL ts n l=some l'→l'.length≤l.length+Zl ts
 | [], n, l, l', h => by
   rw [colL] at h
   cases h
   omega
 | t :: r, n, l, l', h => by
   rw [colL] at h
   rw [Zl]
   cases e:t.col n l with
   | none=>rw [e] at h;exact absurd h (by simp)
   | some m =>
     rw [e] at h
     have h1:=ZdU t n l m e
     have h2:=ZbZ r n m l' h
     omega
end
theorem V2 (t:Tm):1≤t.size:=by cases t;rw [Tm.size];omega
theorem Yu {t:Tm} (h:t.valid=0):t.size≤400:=by
 unfold Tm.valid at h
 split at h
 · rename_i h1;exact absurd h h1
 · split at h
   · exact absurd h (by decide)
   · omega
theorem Yi:Tm.zero.size=1:=rfl
theorem Zh0 (c:Bool) (l:List Tm):(sumG c l).1.size≤400:=by
 unfold sumG
 split; · rw [Yi];omega
 split; · rw [Yi];omega
 split; · rw [Yi];omega
 rename_i h
 exact Yu (Classical.not_not.1 h)
theorem Zao (f:Bool) (l:List Pw):(termG f l).1.size≤400:=by
 unfold termG Zko
 split; · rw [Yi];omega
 split; · rw [Yi];omega
 split; · rw [Yi];omega
 rename_i h
 exact Yu (Classical.not_not.1 h)
theorem ZhV (f:Bool) (t:Tm):(Q0 f t).1.size≤400:=by
 unfold Q0
 split; · rw [Yi];omega
 exact Zao _ _
theorem ZR:∀ {l:List Tm} {x:Tm},x∈l→x.size≤Zl l
 | y :: r, x, h => by
   rw [Zl]
   rcases List.mem_cons.1 h with rfl|h
   · omega
   · have := ZR h
     omega
theorem ZdV (t:Tm) (i:Nat):(t.kd i).size≤t.size:=by
 cases t
 rename_i kz
 simp only [Tm.kd,List.getD_eq_getElem?_getD,Tm.size]
 cases e:kz[i]? with
 |none=>rw [Option.getD_none,Yi];omega
 | some x =>
   have:=ZR (List.mem_of_getElem? e)
   rw [Option.getD_some]
   omega
theorem Zco (f:Bool) (b:Tm) (p:List Pw):(QG f b p).1.size≤b.size+401:=by
 have:=Zao f p
 unfold QG
 split; · show b.size≤_;omega
 split; · rw [Yi];omega
 simp only [Tm.size,Zl]
 omega
theorem Zh4 (f:Bool) (b e:Tm):(Wq f b e).1.size≤b.size+401:=by
 have h1:=ZdV b 0
 have h2:=Zco f (b.kd 0)
 have h3:=Zco f b
 unfold Wq
 split; · rw [Yi];omega
 split
 · split; · rw [Yi]; omega
   split; · rw [Yi];omega
   exact Nat.le_trans (h2 _) (by omega)
 · exact h3 _
theorem ZhU (t:Tm):(Xl t).size≤t.size:=by
 unfold Xl Zb3
 split
 · exact Nat.le_trans (ZdV _ _) (ZdV _ _)
 · exact Nat.le_refl _
theorem ZiV {b:Bool} (h:(Tm.mk 3 nm s b kz).th=0):(Yo nm).kind≠0∧(Yo nm).least≤kz.length∧(kz.length:Int)≤(Yo nm).most∧thL kz=0:=by
 rw [Tm.th] at h
 split at h
 · rename_i h1;exact absurd rfl h1
 split at h
 · exact absurd h (by decide)
 rename_i h2
 split at h
 · exact absurd h (by decide)
 rename_i h3
 split at h
 · exact absurd h (by decide)
 exact ⟨h2,by omega,by omega,h⟩
theorem Znk {n m:Nat} (h:Zl2 nm m=true) (e:n=m):Zl2 nm n=true:=by rw [e];exact h
theorem Qd {n:Nat} (h0:(Yo nm).kind≠0) (h1:(Yo nm).least≤n) (h2:(n:Int)≤(Yo nm).most):nm.length≤24∧n≤8∧Zl2 nm n=true:=by
 rcases Q2 nm with e|⟨e1,e2⟩
 · rw [e] at h0;exact absurd rfl h0
 · rw [← e2]
   revert h1 h2
   generalize Yo nm=s at e1
   simp only [Zac,List.mem_cons,List.not_mem_nil,or_false] at e1
   rcases e1 with rfl|rfl|rfl|rfl|rfl|rfl|rfl|rfl|rfl|rfl|rfl|rfl|rfl|rfl|rfl|rfl|rfl|rfl|rfl|rfl|rfl<;>intro h1 h2<;>simp only at h1 h2<;>refine ⟨by decide,by omega,?_⟩<;>first|rfl|exact Znk (m:=2) rfl (by omega)|exact Znk (m:=1) rfl (by omega)
theorem ZbQ (c:Bool):∀ l:List Tm,(nrmL c l).2=0→(nrmL c l).1.length=l.length
 | [],_=>rfl
 | t :: r, h => by
   have ih:=ZbQ c r
   simp only [nrmL] at h ⊢
   split at h
   · rename_i h1;exact absurd h h1
   rename_i h1
   split at h
   · rename_i h2;exact absurd h h2
   rename_i h2
   rw [if_neg h1,if_neg h2,List.length_cons,List.length_cons,ih (Classical.not_not.1 h2)]
theorem Zl6 (f:Bool):(Q0 f (.mk 3 VF 0 f [])).1.size≤1:=by cases f<;>decide
theorem ZhQ {c : Bool} (h1 : (Yo nm).least ≤ kz.length) (h2 : (kz.length : Int) ≤ (Yo nm).most) (hlen : ks.length = kz.length) (hs : Zl ks ≤ 201 * Zl kz)
  (hh:∀ x r y q,kz=x::r→ks=y::q→y.size≤201*x.size):(YL c nm ks).1.size≤201*(1+Zl kz):=by
 have two:2≤kz.length→2≤Zl kz:=fun h=>by
  match kz,h with
  | x :: y :: r, _ =>
    have a:=V2 x
    have b:=V2 y
    simp only [Zl]
    omega
 unfold YL
 split
 · have := ZhU (.mk 3 nm 0 c ks)
   rw [Tm.size] at this
   show (Xl _).size≤_
   omega
 split
 · rename_i _ e
   have e1:(Yo nm).least=2:=by rw [e];rfl
   have:=two (by omega)
   have:=Zh0 c ks
   omega
 split
 · rename_i _ _ e
   simp only [Zab,Bool.or_eq_true,Bool.and_eq_true,decide_eq_true_eq,true_and] at e
   have hp:=ZhV c (.mk 3 nm 0 c ks)
   rcases e with e|e|e
   · have e1 : (Yo nm).least = 2 := by rw [e]; rfl
     have:=two (by omega)
     omega
   · have e1 : (Yo nm).least = 1 := by rw [e]; rfl
     match kz,h1 with
     | [],h1=>rw [e1] at h1;simp at h1
     | x :: r, _ =>
       have:=V2 x
       simp only [Zl]
       omega
   · have e1 : (Yo nm).most = 0 := by rw [e]; rfl
     have e2:ks= []:=List.length_eq_zero_iff.1 (by omega)
     subst e2
     subst e
     have:=Zl6 c
     omega
 split
 · rename_i _ _ _ e
   have e1:(Yo nm).least=2:=by rw [e];rfl
   match kz,ks,h1,hlen with
   | [],_,h1,_=>rw [e1] at h1;simp at h1
   | [_],_,h1,_=>rw [e1] at h1;simp at h1
   | x::z::r,[],_,hlen=>simp at hlen
   | x :: z :: r, y :: q, _, _ =>
     have a:=hh x _ y q rfl rfl
     have b:=Zh4 c y ((y::q).getD 1 .zero)
     rw [List.getD_cons_zero]
     have d:=V2 z
     simp only [Zl]
     omega
 · show (Tm.mk 3 nm 0 c ks).size ≤ _
   rw [Tm.size]
   omega
mutual
theorem U3 (c:Bool):∀ t:Tm,t.th=0→(t.nrm c).1.size≤201*t.size
 | .mk k nm s b kz, h => by
   have h9:=V2 (.mk k nm s b kz)
   rw [Tm.nrm]
   split
   · show (Tm.mk k nm s b kz).size ≤ _
     omega
   rename_i hk
   have hk:=Classical.not_not.1 hk
   subst hk
   obtain ⟨h0,h1,h2,h3⟩:=ZiV h
   split
   · rw [Yi];omega
   rename_i he
   obtain ⟨a,b'⟩:=QE c kz h3
   have:=ZhQ (c:=c) h1 h2 (ZbQ c kz (Classical.not_not.1 he)) a b'
   rw [Tm.size]
   exact this
theorem QE (c:Bool):∀ l:List Tm,thL l=0→Zl (nrmL c l).1≤201*Zl l∧∀ x r y q,l=x::r→(nrmL c l).1=y::q→y.size≤201*x.size
 | [],_=>⟨by simp [nrmL,Zl],fun x r y q h=>by simp at h⟩
 | t :: r, h => by
   rw [thL] at h
   split at h
   · rename_i h1;exact absurd h h1
   rename_i h1
   have a:=U3 c t (Classical.not_not.1 h1)
   obtain ⟨b,_⟩:=QE c r h
   rw [nrmL]
   split
   · exact ⟨by simp [Zl],fun _ _ _ _ _ h=>by simp at h⟩
   split
   · exact ⟨by simp [Zl],fun _ _ _ _ _ h=>by simp at h⟩
   refine ⟨by simp only [Zl];omega,fun x r' y q e e'=>?_⟩
   cases e
   cases e'
   exact a
end
theorem Zom {P:Tm→Prop} (C:Kin P):∀ l,(∀ x,x∈l→P x)→∀ x,x∈clL l→P x:=fun l h x hx=>by
 rw [YR] at hx
 obtain ⟨y,hy,rfl⟩:=List.mem_map.1 hx
 exact C.cl (h y hy)
theorem Zhd {P:Tm→Prop} (C:Kin P) (m:Bool) (l:List Tm) (h:∀ x,x∈l→P x):∀ x,x∈Zdm m l→P x:=by
 cases m
 · exact h
 · exact Zom C l h
section
variable {P:Tm→Prop} (C:Kin P) {c:Bool}
include C
theorem Kin.sumG {l:List Tm} (h:∀ x,x∈l→P x) (hs:Zl l≤1000000):P (sumG c l).1:=by
 unfold Go.Vm.sumG
 split; · exact C.zero
 split; · exact C.zero
 split; · exact C.zero
 refine C.sumT (Zhd C c _ (C.sumL l [] h fun x hx=>by simp at hx)) ?_
 have:=Y6 l []
 rw [ZfI]
 simp only [List.length_nil] at this
 omega
theorem Kin.step (h0:(Yo nm).kind≠0) (h1:(Yo nm).least≤ks.length) (h2:(ks.length:Int)≤(Yo nm).most) (h:∀ x,x∈ks→P x) (hs:Zl ks≤1000000):P (YL c nm ks).1:=by
 obtain ⟨a1,a2,a3⟩:=Qd h0 h1 h2
 have ht:P (.mk 3 nm 0 c ks):=C.app a1 (by omega) a3 h
 unfold YL
 split; · exact C.dst ht
 split; · exact C.sumG h hs
 split; · exact C.prd ht
 split
 · exact C.rse (C.getD h 0) (C.getD h 1)
 · exact ht
mutual
theorem Kin.nrm:∀ t:Tm,t.th=0→t.size≤4000→P t→P (t.nrm c).1
 | .mk k nm s b kz, h, hs, hp => by
   rw [Tm.nrm]
   split
   · exact hp
   rename_i hk
   have hk:=Classical.not_not.1 hk
   subst hk
   obtain ⟨h0,h1,h2,h3⟩:=ZiV h
   rw [Tm.size] at hs
   split
   · exact C.zero
   rename_i he
   have e:=ZbQ c kz (Classical.not_not.1 he)
   have a:=(QE c kz h3).1
   refine Kin.step C h0 (by rw [e];exact h1) (by rw [e];exact h2) (Kin.nrmL kz h3 (by omega) (C.kid hp)) (by omega)
theorem Kin.nrmL:∀ l:List Tm,thL l=0→Zl l≤4000→(∀ x,x∈l→P x)→∀ x,x∈(Go.Vm.nrmL c l).1→P x
 | [],_,_,_=>fun x hx=>by simp [Go.Vm.nrmL] at hx
 | t :: r, h, hs, hp => by
   rw [thL] at h
   rw [Zl] at hs
   split at h
   · rename_i h1;exact absurd h h1
   rename_i h1
   have a:=Kin.nrm t (Classical.not_not.1 h1) (by omega) (hp t List.mem_cons_self)
   have b:=Kin.nrmL r h (by omega) fun x hx=>hp x (List.mem_cons_of_mem _ hx)
   rw [Go.Vm.nrmL]
   split
   · intro x hx;simp at hx
   split
   · intro x hx;simp at hx
   intro x hx
   rcases List.mem_cons.1 hx with rfl|hx
   · exact a
   · exact b x hx
end
end
mutual
theorem ZiY:∀ t:Tm,t.nodes=0→t.th=0→t.okA=true
 | .mk k nm s b kz, hn, ht => by
   rw [Tm.nodes] at hn
   split at hn
   · rename_i h1;exact absurd hn h1
   rename_i h1
   have h1:=Classical.not_not.1 h1
   unfold Yw at h1
   split at h1
   · exact absurd h1 (by decide)
   rename_i h2
   rw [Tm.okA]
   by_cases hk:k=3
   · subst hk
     obtain ⟨a0,a1,a2,a3⟩:=ZiV ht
     have hs:s=0:=Classical.byContradiction fun h=>h2 (by simp [h])
     rw [if_pos rfl,(Qd a0 a1 a2).2.2,Zir kz hn a3,hs]
     rfl
   · have hz : kz = [] := by
       cases kz with
       | nil=>rfl
       | cons x r=>exact absurd (by simp [hk]) h2
     rw [if_neg hk,hz]
     rfl
theorem Zir:∀ l:List Tm,Yd l=0→thL l=0→Zgm l=true
 | [],_,_=>rfl
 | t :: r, hn, ht => by
   rw [Yd] at hn
   rw [thL] at ht
   split at hn
   · rename_i h1;exact absurd hn h1
   rename_i h1
   split at ht
   · rename_i h2;exact absurd ht h2
   rename_i h2
   rw [Zgm,ZiY t (Classical.not_not.1 h1) (Classical.not_not.1 h2),Zir r hn ht]
   rfl
end
theorem XZ:∀ {l:List Tm} {i:Nat} {t:Tm} (o:List Tm),l[i]? = some t→ZK (l.take (i+1)) o=Z2 (ZK (l.take i) o) t.sumP
 | [],i,t,o,h=>by simp at h
 | x :: r, 0, t, o, h => by
   have e:x=t:=by simpa using h
   subst e
   simp only [List.take_succ_cons,List.take_zero,ZK]
 | x :: r, i + 1, t, o, h => by
   simp only [List.take_succ_cons,ZK]
   exact XZ _ (by simpa using h)
mutual
theorem ZcK:∀ (t z:Tm),z∈t.sumP→z.size≤t.size
 | .mk k nm s b kz, z, hz => by
   rw [Tm.sumP] at hz
   split at hz
   · simp at hz
   · split at hz
     · rcases Ur kz [] z hz with h | ⟨x, hx, h⟩
       · simp at h
       · have := ZR hx
         rw [Tm.size]
         omega
     · rw [List.mem_singleton] at hz
       rw [hz]
       exact Nat.le_refl _
theorem Ur:∀ (l o:List Tm) (z:Tm),z∈ZK l o→z∈o∨∃ x,x∈l∧z.size≤x.size
 | [], o, z, hz => by
   rw [ZK] at hz
   exact .inl hz
 | t :: r, o, z, hz => by
   rw [ZK] at hz
   rcases Ur r _ z hz with h|⟨x,hx,h⟩
   · rcases XC _ _ z h with h | h
     · exact .inl h
     · exact .inr ⟨t,List.mem_cons_self,ZcK t z h⟩
   · exact .inr ⟨x,List.mem_cons_of_mem _ hx,h⟩
end
def SmL (l:List Tm):Prop:=∀ t,t∈l→t.Ok∧t.size≤100000
theorem SmL.tail {r:List Tm} (h:SmL (x::r)):SmL r:=fun t ht=>h t (List.mem_cons_of_mem _ ht)
theorem SmL.head {r:List Tm} (h:SmL (x::r)):x.Ok∧x.size≤100000:=h x List.mem_cons_self
theorem SmL.take {l:List Tm} (h:SmL l) (i:Nat):SmL (l.take i):=fun t ht=>h t (List.mem_of_mem_take ht)
theorem SmL.sum {t:Tm} (h:t.Ok) (hs:t.size≤100000):SmL t.sumP:=fun x hx=>⟨cls_ok.sum t h x hx,Nat.le_trans (ZcK t x hx) hs⟩
theorem SmL.sumL {l:List Tm} (h:SmL l):SmL (ZK l []):=fun x hx=>⟨cls_ok.sumL l [] (fun y hy=>(h y hy).1) (fun y hy=>by simp at hy) x hx,by
 rcases Ur l [] x hx with h'|⟨y,hy,h'⟩
 · simp at h'
 · exact Nat.le_trans h' (h y hy).2⟩
open Go.RowKit Go.Sort Go.Proofs
section
variable {E E1:Env} {P:Program}
end
section
variable {E:Env} {P:Program}
end
section
variable {E:Env} {P:Program}
def bxK (bx:List Box) (L:List Box) (k:Nat):List Box:=match L with
 | []=>bx
 |_::_=>bx.set k .dead
theorem XT (bx L:List Box) (k:Nat):(bxK bx L k).length=bx.length:=by cases L<;>simp [bxK]
theorem Zhb (h:k≠i):(bxK bx L k)[i]? = bx[i]? :=by
 cases L with
 |nil=>rfl
 |cons a r=>exact List.getElem?_set_ne h
def Gh.slot (g:Gh) (L:List Box) (k:Nat):Gh where
 S:=g.S
 σ:=fun i=>match L with
  | []=>none
  | _::_=>if i=0 then g.σ k else none
 τ:=fun _=>none
 κ:=fun _=>g.κ k
 mono:=g.mono
def Gh.unslot (g' g:Gh) (n j:Nat):Gh where
 S:=g'.S
 σ:=fun i=>if i=n then g'.σ j else g.σ i
 τ:=g.τ
 κ:=fun i=>if i=n then g'.κ j else g.κ i
 mono:=g.mono
theorem ZhZ (hf:ZX el=some el) (hS:g2.S=g.S) (hi:i<el.length) (hj:j<(el[i]).length) (h:V g ((el[i])[j]) v):V g2 ((el[i])[j]) v:=by
 obtain ⟨-,h2⟩:=U7 hf
 obtain ⟨-,h4⟩:=Qw (h2 i hi hi)
 have:=Ul h (h4 j hj hj)
 exact .pure _ _ (hS ▸ this)
def Zho (L:List Box) (H:Heap) (k:Nat):Prop:=L= []∨∃ es el,L= [.cells es el]∧H.bx[k]? = some (.cells es el)∧ZX el=some el∧H.ro≤k
theorem QX (h:(⟨L,0,[],0⟩:Heap).liveAt i) {H:Heap} (hL:Zho L H k):i=0∧∃ es el,L= [.cells es el]∧H.bx[k]? = some (.cells es el)∧H.ro≤k:=by
 obtain ⟨b,hb, -⟩:=h
 rcases hL with rfl|⟨es,el,rfl,h1, -,h2⟩
 · simp at hb
 · have := Zx hb
   exact ⟨by simpa using this,es,el,rfl,h1,h2⟩
theorem ZcN {b:Nat} (h:(g.slot L k).σ i=some b):i=0∧g.σ k=some b∧L≠ []:=by
 cases L with
 |nil=>cases h
 | cons a r =>
   simp only [Gh.slot] at h
   split at h
   · rename_i e
     exact ⟨e,h,by simp⟩
   · cases h
theorem CallOk.slot {f : FuncId} {args args0 : List PV} {r r' : PV} {H H1 : Heap} {L : List Box} {k j : Nat} {B : Box} (h : CallOk E P f args0 ⟨L, 0, [], 0⟩ r H1) (hL : Zho L H k)
  (ha:∀ (g g0:Gh) (l:List Value),g0.S=g.S→(L≠ []→g0.σ 0=g.σ k∧g0.κ 0=g.κ k)→VL g args l→VL g0 args0 l)
  (hB:B= .dead∨∃ es el D,B= .cells es el∧H1.bx[j]? = some (.cells es (el++D))∧ZX el=some el)
  (hr:∀ (g1 g2:Gh) (v:Value),g2.S=g1.S→(g2.σ H.bx.length=g1.σ j∧g2.κ H.bx.length=g1.κ j)→V g1 r v→V g2 r' v) :
  CallOk E P f args H r' {H with bx:=bxK H.bx L k++ [B]}:=by
 intro g w vals hi hg hv
 have s0:L≠ []→(g.slot L k).σ 0=g.σ k:=fun hne=>by
  cases L with
  | nil=>exact absurd rfl hne
  | cons a r=>rfl
 have hi0:Inv (g.slot L k) ⟨L,0,[],0⟩ w:={
  st:=hi.st
  bx:=fun id es el e=>by
   rcases hL with rfl|⟨es',el',rfl,h1,h2,h3⟩
   · simp at e
   · have hid : id = 0 := by have := Zx e; simpa using this
     subst hid
     simp only [List.getElem?_cons_zero,Option.some.injEq,Box.cells.injEq] at e
     obtain ⟨rfl,rfl⟩:=e
     obtain ⟨b,c,T,a1,a2,a3,a4,a5,a6⟩:=hi.bx _ _ _ h1
     exact ⟨b,c,T,a1,a2,a3,a4,fun i hi0 j hj=>let ⟨v,x,y⟩:=a5 i hi0 j hj;⟨v,x,ZhZ (g:=g) (g2:=g.slot _ k) h2 rfl hi0 hj y⟩,a6⟩
  mp:=fun id es e=>by
   rcases hL with rfl|⟨es',el',rfl,h1,h2,h3⟩
   · simp at e
   · have hid : id = 0 := by have := Zx e; simpa using this
     subst hid
     simp at e
  sp:=fun id T cs e=>by
   rcases hL with rfl|⟨es',el',rfl,h1,h2,h3⟩
   · simp at e
   · have hid : id = 0 := by have := Zx e; simpa using this
     subst hid
     simp at e
  inj:=fun i j b e1 e2 _ _=>by rw [(QX e1 hL).1,(QX e2 hL).1]
  sd:=fun id e=>by
   rcases hL with rfl|⟨es',el',rfl,h1,h2,h3⟩
   · rfl
   · have : id ≠ 0 := by simp at e; omega
     simp [Gh.slot,this]
  td:=fun _ _=>rfl
  tk:=fun t b lo hi' e=>by simp at e
  tinj:=fun t t' b lo hi' lo' hi2 e=>by simp at e
  nd:=List.nodup_nil
  lt:=fun t e=>by simp at e
  sz:=fun id b e=>hi.sz k b (ZcN e).2.1
  ro:=Nat.zero_le _
  rm:=fun id b c T m e1 e2 e3=>by
   obtain ⟨-,es,el, -,hk, -⟩:=QX e1 hL
   exact hi.rm k b c T m ⟨_,hk,trivial⟩ (ZcN e2).2.1 e3}
 refine UponCall.mono (fun v w' ⟨g',hp,hi',K⟩=>?_) (h (g.slot L k) w vals hi0 hg (ha g _ _ rfl (fun hne=>⟨s0 hne,rfl⟩) hv))
 obtain ⟨N,hN⟩:∃ N,N=H.bx.length:=⟨_,rfl⟩
 rw [← hN] at hr
 have sh:∀ b,(L≠ []→g.σ k≠some b)→Shut (g.slot L k) ⟨L,0,[],0⟩ b:=fun b hb=>⟨fun id _ hl he=>by
  obtain ⟨_,e2,e3⟩:=ZcN he
  exact hb e3 e2,fun t lo hi2 ht=>by simp at ht⟩
 have kl:L≠ []→H.liveAt k∧H.ro≤k:=fun hne=>by
  rcases hL with rfl|⟨es',el',rfl,h1,h2,h3⟩
  · exact absurd rfl hne
  · exact ⟨⟨_,h1,trivial⟩,h3⟩
 have nk:∀ {i b},H.liveAt i→(L≠ []→i≠k)→g.σ i=some b→L≠ []→g.σ k≠some b:=fun {i b} hl hik hs hne hk=>hik hne (hi.inj i k b hl (kl hne).1 hs hk)
 have liveI:∀ i,i≠N→(⟨bxK H.bx L k++ [B],H.ro,H.live,H.nt⟩:Heap).liveAt i→H.liveAt i∧(L≠ []→i≠k):=fun i hiN hl=>by
  obtain ⟨b,hb,hal⟩:=hl
  have hlt:i<(bxK H.bx L k).length:=by
   have:=Zx hb
   simp only [List.length_append,List.length_singleton,XT] at this
   rw [XT];omega
  rw [List.getElem?_append_left hlt] at hb
  by_cases hik:k=i
  · subst hik
    cases L with
    | nil=>exact ⟨⟨b,hb,hal⟩,fun h=>absurd rfl h⟩
    | cons a r =>
      simp only [bxK] at hb hlt
      rw [List.getElem?_set_self (by simpa using hlt)] at hb
      cases hb
      exact hal.elim
  · rw [Zhb hik] at hb
    exact ⟨⟨b,hb,hal⟩,fun _ e=>hik e.symm⟩
 have σi:∀ i,i≠N→(g'.unslot g N j).σ i=g.σ i:=fun i h=>by simp [Gh.unslot,h]
 have Ji:∀ i,i≠N→(g'.unslot g N j).κ i=g.κ i:=fun i h=>by simp [Gh.unslot,h]
 have σN:(g'.unslot g N j).σ N=g'.σ j:=by simp [Gh.unslot]
 have JN:(g'.unslot g N j).κ N=g'.κ j:=by simp [Gh.unslot]
 have sN:g.σ N=none:=hi.sd N (by omega)
 have iN:∀ {i b},g.σ i=some b→i≠N:=fun {i b} h e=>by rw [e,sN] at h;cases h
 have le2:g.Le (g'.unslot g N j):=⟨fun b o v h=>K.le.S b o v h,fun i b h=>by rw [σi i (iN h)];exact h,fun t x h=>h,fun i b h=>Ji i (iN h),rfl⟩
 have le3:(g'.unslot g N j).S=g'.S:=rfl
 have nw:∀ b,g'.σ j=some b→w.heap.size≤b∨(L≠ []∧g.σ k=some b):=fun b hb=>by
  cases e:(g.slot L k).σ j with
  | some b0 =>
    obtain ⟨e1,e2,e3⟩:=ZcN e
    have:=K.le.σ _ _ e
    rw [hb] at this
    cases this
    exact .inr ⟨e3,e2⟩
  | none =>
    rcases K.new j b e hb with h3|⟨id',_,h4,h5⟩
    · exact .inl h3
    · obtain ⟨e1, e2, e3⟩ := ZcN h5
      exact .inr ⟨e3,e2⟩
 have apart:∀ {i b},H.liveAt i→(L≠ []→i≠k)→g.σ i=some b→g'.σ j≠some b:=fun {i b} hl hik hs hj=>by
  rcases nw b hj with h1|⟨h1,h2⟩
  · have:=hi.sz i b hs;omega
  · exact nk hl hik hs h1 h2
 have keepB:∀ {i b},H.liveAt i→(L≠ []→i≠k)→g.σ i=some b→w'.heap[b]? = w.heap[b]? ∧∀ o,g'.S b o=g.S b o:=fun {i b} hl hik hs=>
  ⟨K.heap b (hi.sz i b hs) (sh b (nk hl hik hs)),K.store b (hi.sz i b hs) (sh b (nk hl hik hs))⟩
 have getI:∀ i x,i≠N→(bxK H.bx L k++ [B])[i]? = some x→x.alive→H.bx[i]? = some x∧H.liveAt i∧(L≠ []→i≠k):=fun i x hiN hx hal=>by
  obtain ⟨h1,h2⟩:=liveI i hiN ⟨x,hx,hal⟩
  refine ⟨?_,h1,h2⟩
  have hlt:i<(bxK H.bx L k).length:=by
   have:=Zx hx
   simp only [List.length_append,List.length_singleton,XT] at this
   rw [XT];omega
  rw [List.getElem?_append_left hlt] at hx
  cases L with
  | nil=>exact hx
  | cons a r =>
    rw [Zhb (fun e=>h2 (by simp) e.symm)] at hx
    exact hx
 have getN:(bxK H.bx L k++ [B])[N]? = some B:=by
  rw [List.getElem?_append_right (by rw [XT];omega),XT,hN]
  simp
 refine ⟨g'.unslot g N j,hr g' _ v rfl ⟨σN,JN⟩ hp,⟨hi'.st,fun id es el e=>?_,fun id es e=>?_,fun id T cs e=>?_,fun a b x h1 h2 h3 h4=>?_,fun id e=>?_,hi.td,fun t b lo hi2 ht hτ=>?_,hi.tinj,hi.nd,hi.lt,fun id b e=>?_,?_,fun id b c T m h1 h2 h3=>?_⟩,
  ⟨le2,fun b hb hs=>K.heap b hb (sh b fun hne=>hs.1 k (kl hne).2 (kl hne).1),fun b hb hs=>K.store b hb (sh b fun hne=>hs.1 k (kl hne).2 (kl hne).1),K.size,fun id b e1 e2=>?_,fun t b lo hi2 e1 e2=>?_,rfl,?_,fun id e=>?_,Nat.le_refl _,fun t e=> .inl e,fun id b e1 e2=>(liveI id (iN e1) e2).1,fun id e1 e2=>?_,K.so⟩⟩
 · by_cases hid : id = N
   · subst hid
     rw [getN] at e
     cases e
     rcases hB with h0|⟨es',el',D,h0,h1,h2⟩
     · cases h0
     · cases h0
       obtain ⟨b,c,T,a1,a2,a3,a4,a5,a6⟩:=hi'.bx _ _ _ h1
       have hm:=Nat.mul_le_mul_right es (show el.length≤(el++D).length by simp)
       refine ⟨b,c,T,by rw [σN];exact a1,a2,fun i hi0=>?_,by omega,fun i hi0 q hq=>?_,a6⟩
       · have := a3 i (by rw [List.length_append]; omega)
         rwa [List.getElem_append_left hi0] at this
       · have := a5 i (by rw [List.length_append]; omega) q (by rw [List.getElem_append_left hi0]; exact hq)
         simp only [List.getElem_append_left hi0] at this
         obtain ⟨v,x,y⟩:=this
         exact ⟨v,x,ZhZ h2 le3 hi0 hq y⟩
   · obtain ⟨h1, h2, h3⟩ := getI id _ hid e trivial
     obtain ⟨b,c,T,a1,a2,a3,a4,a5,a6⟩:=hi.bx _ _ _ h1
     obtain ⟨q1,q2⟩:=keepB h2 h3 a1
     exact ⟨b,c,T,by rw [σi id hid];exact a1,by rw [q1];exact a2,a3,a4,fun i hi0 q hq=>let ⟨v,x,y⟩:=a5 i hi0 q hq;⟨v,x,y.mono le2⟩,fun o=>(q2 o).trans (a6 o)⟩
 · by_cases hid : id = N
   · subst hid
     rw [getN] at e
     cases e
     rcases hB with h0|⟨es',el',D,h0,h1,h2⟩<;>cases h0
   · obtain ⟨h1, h2, h3⟩ := getI id _ hid e trivial
     obtain ⟨b,c,T,a1,a2,a3,a4,a5⟩:=hi.mp _ _ h1
     obtain ⟨q1,q2⟩:=keepB h2 h3 a1
     exact ⟨b,c,T,by rw [σi id hid];exact a1,by rw [q1];exact a2,a3,fun i hi0=>let ⟨z,x,y,y'⟩:=a4 i hi0;⟨z,x,y.mono le2,y'.mono le2⟩,fun o=>(q2 o).trans (a5 o)⟩
 · by_cases hid : id = N
   · subst hid
     rw [getN] at e
     cases e
     rcases hB with h0|⟨es',el',D,h0,h1,h2⟩<;>cases h0
   · obtain ⟨h1, h2, h3⟩ := getI id _ hid e trivial
     obtain ⟨b,c,a1,a2,a3,a4,a5⟩:=hi.sp _ _ _ h1
     obtain ⟨q1,q2⟩:=keepB h2 h3 a1
     exact ⟨b,c,by rw [σi id hid];exact a1,by rw [q1];exact a2,a3,fun i hi0=>let ⟨z,x,y⟩:=a4 i hi0;⟨z,x,y.mono le2⟩,fun o=>(q2 o).trans (a5 o)⟩
 · by_cases ha0 : a = N <;> by_cases hb0 : b = N
   · rw [ha0,hb0]
   · rw [ha0, σN] at h3
     rw [σi b hb0] at h4
     obtain ⟨p1,p2⟩:=liveI b hb0 h2
     exact absurd h3 (apart p1 p2 h4)
   · rw [hb0, σN] at h4
     rw [σi a ha0] at h3
     obtain ⟨p1,p2⟩:=liveI a ha0 h1
     exact absurd h4 (apart p1 p2 h3)
   · rw [σi a ha0] at h3
     rw [σi b hb0] at h4
     exact hi.inj a b x (liveI a ha0 h1).1 (liveI b hb0 h2).1 h3 h4
 · have e : N + 1 ≤ id := by simpa [XT, hN] using e
   rw [σi id (by omega)]
   exact hi.sd id (by omega)
 · obtain ⟨⟨c, T, a1, a2⟩, a3, a4⟩ := hi.tk t b lo hi2 ht hτ
   have hb:b<w.heap.size:=by
    rcases Nat.lt_or_ge b w.heap.size with h'|h'
    · exact h'
    · simp [Array.getElem?_eq_none h'] at a1
   have hsh:=sh b fun hne=>a4 k (kl hne).1
   refine ⟨⟨c,T,by rw [K.heap b hb hsh];exact a1,a2⟩,fun o ho=>(K.store b hb hsh o).trans (a3 o ho),fun id hl he=>?_⟩
   by_cases hid:id=N
   · rw [hid, σN] at he
     rcases nw b he with h1|⟨h1,h2⟩
     · omega
     · exact a4 k (kl h1).1 h2
   · rw [σi id hid] at he
     exact a4 id (liveI id hid hl).1 he
 · by_cases hid : id = N
   · rw [hid,σN] at e;exact hi'.sz j b e
   · rw [σi id hid] at e;exact Nat.lt_of_lt_of_le (hi.sz id b e) K.size
 · have := hi.ro
   simp only [List.length_append,XT,List.length_singleton];omega
 · by_cases hid : id = N
   · subst hid
     obtain ⟨x,hx,hal⟩:=h1
     rw [getN] at hx
     cases hx
     rw [σN] at h2
     rw [JN]
     rcases hB with rfl|⟨es',el',D,rfl,q1,q2⟩
     · exact hal.elim
     · exact hi'.rm j b c T m ⟨_,q1,trivial⟩ h2 h3
   · rw [σi id hid] at h2
     rw [Ji id hid]
     obtain ⟨p1,p2⟩:=liveI id hid h1
     rw [(keepB p1 p2 h2).1] at h3
     exact hi.rm id b c T m p1 h2 h3
 · by_cases hid : id = N
   · rw [hid, σN] at e2
     rcases nw b e2 with h1|⟨h1,h2⟩
     · exact .inl h1
     · exact .inr ⟨k,(kl h1).2,(kl h1).1,h2⟩
   · rw [σi id hid,e1] at e2;cases e2
 · rw [show (g'.unslot g N j).τ t=g.τ t from rfl,e1] at e2;cases e2
 · simp only [List.length_append,XT,List.length_singleton];omega
 · have hidl : id < H.bx.length := Nat.lt_of_lt_of_le e hi.ro
   show (bxK H.bx L k++ [B])[id]? = H.bx[id]?
   rw [List.getElem?_append_left (by rw [XT];exact hidl)]
   cases L with
   | nil=>rfl
   | cons a r=>exact Zhb (by have:=(kl (by simp)).2;have e:id<H.ro:=e;omega)
 · have e1 : id < N := by rw [hN]; exact e1
   rw [σi id (by omega)];exact e2
theorem V3 {g0:Gh} {n:Nat} (h1:g0.σ k0=g.σ k) (h2:g0.κ k0=g.κ k) (h:V g (.own k es ix n) v):V g0 (.own k0 es ix n) v:=by
 cases h with
 |pure _ _ h=>cases h
 |own _ _ _ _ b cap a h hc ha hsp hk=>exact .own _ _ _ _ b cap a (h1.trans h) hc ha hsp ⟨by rw [h2];exact hk.1,hk.2⟩
theorem WO {g0:Gh} (hS:g0.S=g.S) (hf:frzG p=some p) (h:V g p v):V g0 p v:= .pure _ _ (hS ▸ Qf h hf)
theorem Zcu {g0:Gh} (hS:g0.S=g.S) {l:List Value} (hf:ZM ax=some ax) (h:VL g ax l):VL g0 ax l:=by
 obtain ⟨-,h2⟩:=XM hf
 exact ⟨h.1,fun i h1 h3=>WO hS (h2 i h1 h1) (h.2 i h1 h3)⟩
theorem Zgy {g0:Gh} (hS:g0.S=g.S) {n:Nat} (h1:g0.σ k0=g.σ k) (h2:g0.κ k0=g.κ k) {l:List Value} (hf:ZM ax=some ax) (h:VL g (.own k es ix n::ax) l):VL g0 (.own k0 es ix n::ax) l:=by
 obtain ⟨hl,hv⟩:=h
 obtain ⟨-,h3⟩:=XM hf
 refine ⟨hl,fun i a b=>?_⟩
 cases i with
 |zero=>exact V3 h1 h2 (hv 0 (by simp) b)
 | succ i =>
   have ha:i<ax.length:=by simpa using a
   have:=hv (i+1) (by simp;omega) b
   simp only [List.getElem_cons_succ] at this ⊢
   exact WO hS (h3 i ha ha) this
theorem ZeM {g1:Gh} {cs':List PV} (hl:cs'.length=cs.length) (hm:∀ i (hi:i<cs.length) (hi':i<cs'.length) v,V g1 cs[i] v→V g2 cs'[i] v) (h:V g1 (.tup cs) v):V g2 (.tup cs') v:=by
 obtain ⟨vs,h1,rfl,hv⟩:=h.tup_inv
 exact .tup _ _ (by omega) fun i hi=>hm i (by omega) hi _ (hv i (by omega))
theorem Zl5 {g1:Gh} (hS:g2.S=g1.S) {N n:Nat} (h:g2.σ N=g1.σ j∧g2.κ N=g1.κ j) (hq:frzG q=some q) (hv:V g1 (.tup [.own j es ix n,q]) v):V g2 (.tup [.own N es ix n,q]) v:=
 ZeM (cs:=[.own j es ix n,q]) (cs':=[.own N es ix n,q]) rfl (fun i hi hi' v x=>by
  match i,hi with
  | 0,_=>exact V3 h.1 h.2 x
  | 1,_=>exact WO hS hq x) hv
theorem ZhJ {g1:Gh} (hS:g2.S=g1.S) (hf:ZM cs=some cs) (hv:V g1 (.tup cs) v):V g2 (.tup cs) v:=by
 obtain ⟨-,h2⟩:=XM hf
 exact ZeM rfl (fun i hi _ v x=>WO hS (h2 i hi hi) x) hv
inductive Mut (es:Nat) (bx:List Box):PV→List (List PV)→Prop
 |nil:Mut es bx .nils []
 |own (k:Nat) (el:List (List PV)) (h:bx[k]? = some (.cells es el)):Mut es bx (.own k es 0 el.length) el
def WE (v:PV) (bx:List Box):List Box:=match v with
 | .own k _ _ _=>bx.set k .dead
 |_=>bx
theorem XY (v:PV) (bx:List Box):(WE v bx).length=bx.length:=by
 unfold WE
 split
 · simp
 · rfl
inductive Mut0 (es:Nat):PV→List Box→List (List PV)→Prop
 |nil:Mut0 es .nils [] []
 |own (el:List (List PV)):Mut0 es (.own 0 es 0 el.length) [.cells es el] el
inductive Out (es:Nat) (H1:Heap):PV→List (List PV)→Prop
 |nil:Out es H1 .nils []
 |own (j:Nat) (el D:List (List PV)) (h:H1.bx[j]? = some (.cells es (el++D))) (hf:ZX el=some el):Out es H1 (.own j es 0 el.length) el
theorem CallOk.mut {f : FuncId} {v : PV} {H : Heap} (hro : H.ro = 0) (hv : Mut es H.bx v el) (hf : ZX el = some el) (has : ZM ax = some ax)
  (h:∀ v0 L,Mut0 es v0 L el→∃ r H1,CallOk E P f (v0::ax) ⟨L,0,[],0⟩ r H1∧Out es H1 r el') :
  ∃ v' B,CallOk E P f (v::ax) H v' {H with bx:=WE v H.bx++ [B]}∧Mut es (WE v H.bx++ [B]) v' el'∧(v'= .nils∨∃ n,v'= .own H.bx.length es 0 n):=by
 have key : ∀ L k, Zho L H k → bxK H.bx L k = WE v H.bx → (∀ v0 : PV, Mut0 es v0 L el → ∀ (g g0 : Gh) (l : List Value), g0.S = g.S → (L ≠ [] → g0.σ 0 = g.σ k ∧ g0.κ 0 = g.κ k) → VL g (v :: ax) l → VL g0 (v0 :: ax) l) → (∃ v0, Mut0 es v0 L el) →
   ∃ v' B,CallOk E P f (v::ax) H v' {H with bx:=WE v H.bx++ [B]}∧Mut es (WE v H.bx++ [B]) v' el'∧(v'= .nils∨∃ n,v'= .own H.bx.length es 0 n):=fun L k hL hb ha hm=>by
  obtain ⟨v0,hm⟩:=hm
  obtain ⟨r,H1,hc,ho⟩:=h v0 L hm
  cases ho with
  | nil =>
    have h1:=hc.slot (r':= .nils) (B:= .dead) (j:=0) hL (ha v0 hm) (.inl rfl) (fun g1 g2 v hS _ x=>WO hS rfl x)
    rw [hb] at h1
    exact ⟨.nils,.dead,h1,.nil,.inl rfl⟩
  | own j _ D hj hf2 =>
    have h1:=hc.slot (r':= .own H.bx.length es 0 el'.length) (B:= .cells es el') (j:=j) hL (ha v0 hm) (.inr ⟨es,el',D,rfl,hj,hf2⟩) (fun g1 g2 v hS hs x=>V3 hs.1 hs.2 x)
    rw [hb] at h1
    refine ⟨_,_,h1,.own H.bx.length el' ?_,.inr ⟨_,rfl⟩⟩
    rw [List.getElem?_append_right (by rw [XY];exact Nat.le_refl _),XY,Nat.sub_self]
    rfl
 cases hv with
 |nil=>exact key [] 0 (.inl rfl) rfl (fun v0 hm=>by cases hm;exact fun g g0 l hS _ x=>Zcu hS (by rw [ZM,has];rfl) x) ⟨_,.nil⟩
 |own k _ hk=>exact key [.cells es el] k (.inr ⟨es,el,rfl,hk,hf,by rw [hro];exact Nat.zero_le _⟩) rfl (fun v0 hm=>by cases hm;exact fun g g0 l hS hs x=>Zgy hS (hs (by simp)).1 (hs (by simp)).2 has x) ⟨_,.own el⟩
theorem CallOk.mutT (hq : frzG q = some q) {f : FuncId} {v : PV} {H : Heap} (hro : H.ro = 0) (hv : Mut es H.bx v el) (hf : ZX el = some el) (has : ZM ax = some ax)
  (h:∀ v0 L,Mut0 es v0 L el→∃ r H1,CallOk E P f (v0::ax) ⟨L,0,[],0⟩ (.tup [r,q]) H1∧Out es H1 r el') :
  ∃ v' B,CallOk E P f (v::ax) H (.tup [v',q]) {H with bx:=WE v H.bx++ [B]}∧Mut es (WE v H.bx++ [B]) v' el'∧(v'= .nils∨∃ n,v'= .own H.bx.length es 0 n):=by
 have key : ∀ L k, Zho L H k → bxK H.bx L k = WE v H.bx → (∀ v0 : PV, Mut0 es v0 L el → ∀ (g g0 : Gh) (l : List Value), g0.S = g.S → (L ≠ [] → g0.σ 0 = g.σ k ∧ g0.κ 0 = g.κ k) → VL g (v :: ax) l → VL g0 (v0 :: ax) l) → (∃ v0, Mut0 es v0 L el) →
   ∃ v' B,CallOk E P f (v::ax) H (.tup [v',q]) {H with bx:=WE v H.bx++ [B]}∧Mut es (WE v H.bx++ [B]) v' el'∧(v'= .nils∨∃ n,v'= .own H.bx.length es 0 n):=fun L k hL hb ha hm=>by
  obtain ⟨v0,hm⟩:=hm
  obtain ⟨r,H1,hc,ho⟩:=h v0 L hm
  cases ho with
  | nil =>
    have h1:=hc.slot (r':= .tup [.nils,q]) (B:= .dead) (j:=0) hL (ha v0 hm) (.inl rfl) (fun g1 g2 v hS _ x=>ZhJ hS (by rw [ZM,ZM,hq];rfl) x)
    rw [hb] at h1
    exact ⟨.nils,.dead,h1,.nil,.inl rfl⟩
  | own j _ D hj hf2 =>
    have h1:=hc.slot (r':= .tup [.own H.bx.length es 0 el'.length,q]) (B:= .cells es el') (j:=j) hL (ha v0 hm) (.inr ⟨es,el',D,rfl,hj,hf2⟩) (fun g1 g2 v hS hs x=>Zl5 hS hs hq x)
    rw [hb] at h1
    refine ⟨_,_,h1,.own H.bx.length el' ?_,.inr ⟨_,rfl⟩⟩
    rw [List.getElem?_append_right (by rw [XY];exact Nat.le_refl _),XY,Nat.sub_self]
    rfl
 cases hv with
 |nil=>exact key [] 0 (.inl rfl) rfl (fun v0 hm=>by cases hm;exact fun g g0 l hS _ x=>Zcu hS (by rw [ZM,has];rfl) x) ⟨_,.nil⟩
 |own k _ hk=>exact key [.cells es el] k (.inr ⟨es,el,rfl,hk,hf,by rw [hro];exact Nat.zero_le _⟩) rfl (fun v0 hm=>by cases hm;exact fun g g0 l hS hs x=>Zgy hS (hs (by simp)).1 (hs (by simp)).2 has x) ⟨_,.own el⟩
theorem CallOk.mutF (hcs : ZM cs = some cs) {f : FuncId} {v : PV} {H : Heap} (hro : H.ro = 0) (hv : Mut es H.bx v el) (hf : ZX el = some el) (has : ZM ax = some ax)
  (h:∀ v0 L,Mut0 es v0 L el→∃ H1,CallOk E P f (v0::ax) ⟨L,0,[],0⟩ (.tup cs) H1):CallOk E P f (v::ax) H (.tup cs) {H with bx:=WE v H.bx++ [.dead]}:=by
 have key : ∀ L k, Zho L H k → bxK H.bx L k = WE v H.bx → (∀ v0 : PV, Mut0 es v0 L el → ∀ (g g0 : Gh) (l : List Value), g0.S = g.S → (L ≠ [] → g0.σ 0 = g.σ k ∧ g0.κ 0 = g.κ k) → VL g (v :: ax) l → VL g0 (v0 :: ax) l) → (∃ v0, Mut0 es v0 L el) →
   CallOk E P f (v::ax) H (.tup cs) {H with bx:=WE v H.bx++ [.dead]}:=fun L k hL hb ha hm=>by
  obtain ⟨v0,hm⟩:=hm
  obtain ⟨H1,hc⟩:=h v0 L hm
  have h1:=hc.slot (r':= .tup cs) (B:= .dead) (j:=0) hL (ha v0 hm) (.inl rfl) (fun g1 g2 v hS _ x=>ZhJ hS hcs x)
  rw [hb] at h1
  exact h1
 cases hv with
 |nil=>exact key [] 0 (.inl rfl) rfl (fun v0 hm=>by cases hm;exact fun g g0 l hS _ x=>Zcu hS (by rw [ZM,has];rfl) x) ⟨_,.nil⟩
 |own k _ hk=>exact key [.cells es el] k (.inr ⟨es,el,rfl,hk,hf,by rw [hro];exact Nat.zero_le _⟩) rfl (fun v0 hm=>by cases hm;exact fun g g0 l hS hs x=>Zgy hS (hs (by simp)).1 (hs (by simp)).2 has x) ⟨_,.own el⟩
theorem Zpd {own : Tmp → Bool} {n : Nat} {K : TM → Heap → Prop} {tm : TM} {H : Heap} {t u : TypeId} {x y : Operand} {X Y : PV}
  (hw:Ze all tm ⟨some d,.call {callee:= .builtin .append,args:= #[x,y],argTypes:= #[t,u]},ty,pos,aft,grd⟩=some true) (hn:Nat.blt d n=true) (ho:own d=true) (hx:Zi E tm x=X) (hy:Zi E tm y=Y) (h:ZV E t u X Y H=some (p,H1))
  (hr:RegQ E P own n all r K (ZG tm (some d) p) H1):RegQ E P own n all (⟨some d,.call {callee:= .builtin .append,args:= #[x,y],argTypes:= #[t,u]},ty,pos,aft,grd⟩::r) K tm H:=
 .op (p:=p) hw (by simp only [Xu,hn]) (by simp [aOp,Yp,ho,hx,hy,h]) hr
theorem UO {own : Tmp → Bool} {n : Nat} {K : TM → Heap → Prop} {tm : TM} {H : Heap} {t : TypeId} {m : Nat}
  (hw:Ze all tm ⟨some d,.buildSlice t m ps,ty,pos,aft,grd⟩=some true) (hn:Nat.blt d n=true) (ho:own d=false) (h:ZT E t m (ps.toList.map fun p=>(p.1,Zi E tm p.2))=some (es,el)) (hf:ZX el=some el')
  (hr:RegQ E P own n all r K (ZG tm (some d) (.sl .full es el')) H):RegQ E P own n all (⟨some d,.buildSlice t m ps,ty,pos,aft,grd⟩::r) K tm H:=
 .op (p:= .sl .full es el') hw (by simp only [Xu,hn]) (by simp only [aOp,Option.getD_some,h,ho,Bool.false_eq_true,if_false,hf]) hr
theorem Zpp {own : Tmp → Bool} {n : Nat} {K : TM → Heap → Prop} {tm : TM} {ops : Array Oper} {t : TypeId} {m : Nat} {ro nt : Nat} {lv : List Nat}
  (hw:Ze ops.toList tm ⟨some d,.buildSlice t m ps,ty,pos,aft,grd⟩=some true) (hn:Nat.blt d n=true) (ho:own d=true) (h:ZT E t m (ps.toList.map fun p=>(p.1,Zi E tm p.2))=some (es,el))
  (hr:DrwQ E P own n ops n0 (i+1) r K (ZG tm (some d) (.own bx.length es 0 m)) ⟨bx++ [.cells es el],ro,lv,nt⟩):DrwQ E P own n ops n0 i (⟨some d,.buildSlice t m ps,ty,pos,aft,grd⟩::r) K tm ⟨bx,ro,lv,nt⟩:=by
 have hc:YO E own ⟨some d,.buildSlice t m ps,ty,pos,aft,grd⟩= .tk:=by simp [YO,ho]
 refine .stepN (p:= .own bx.length es 0 m) (H1:=⟨bx++ [.cells es el],ro,lv,nt⟩) (by simp only [Xu,hn]) (.inr (.inr ⟨hc,fun j b hj=>by rw [List.getElem?_append_left (Zx hj)];exact hj⟩)) (fun ho'=>?_) hr
 have hci:=(XS (E:=E) (own:=own) ho').trans hc
 refine ⟨by rw [hci];simp,.inr (.inl ⟨by rw [hci];exact ⟨by simp,by simp,by simp⟩,?_⟩)⟩
 have:=Hp.tk (E:=E) (P:=P) (own:=own) (ops:=ops) (n0:=n0) (cls:=YY E own ops) (tgt:=fun _=>n0) (msk:=fun _=>[]) (i:=i) (o:=⟨some d,.buildSlice t m ps,ty,pos,aft,grd⟩) (tm:=tm) ⟨bx,ro,lv,nt⟩ (.own bx.length es 0 m) ⟨bx++ [.cells es el],bx.length,lv,nt⟩ hw hci
  (.op _ _ (by simp only [aOp,Option.getD_some,h,ho,if_true];rfl)) (by simp)
 have e:XX ⟨bx,ro,lv,nt⟩ ⟨bx++ [.cells es el],bx.length,lv,nt⟩=⟨bx++ [.cells es el],ro,lv,nt⟩:=by simp [XX]
 rw [e] at this
 exact this
end
section
variable {E:Env} {P:Program} {own:Tmp→Bool} {n:Nat} {K:TM→Heap→Prop} {tm:TM} {H:Heap}
theorem dCe {ops : Array Oper} {f : Operand} {args : Array Operand} {ats : Array TypeId} {k : FuncId} {caps al : List PV}
  (hw:Ze ops.toList tm ⟨some d,.call {callee:= .value f,args:=args,argTypes:=ats},ty,pos,aft,grd⟩=some true) (hn:Nat.blt d n=true) (hf:Zi E tm f= .fn k caps)
  (ha:args.toList.map (Zi E tm)++caps=al) (hc:YO E own ⟨some d,.call {callee:= .value f,args:=args,argTypes:=ats},ty,pos,aft,grd⟩= .ef) (h:CallOk E P k al H p H1) (hl:H.bx.length≤H1.bx.length)
  (hr:DrwQ E P own n ops n0 (i+1) r K (ZG tm (some d) p) H1):DrwQ E P own n ops n0 i (⟨some d,.call {callee:= .value f,args:=args,argTypes:=ats},ty,pos,aft,grd⟩::r) K tm H:=by
 refine .stepN (p:=p) (H1:=H1) (by simp only [Xu,hn]) (.inr (.inl hc)) (fun ho'=>?_) hr
 have hci:=(XS (E:=E) (own:=own) ho').trans hc
 refine ⟨by rw [hci];simp,.inr (.inl ⟨by rw [hci];exact ⟨by simp,by simp,by simp⟩,?_⟩)⟩
 have:=Hp.ef (E:=E) (P:=P) (own:=own) (ops:=ops) (n0:=n0) (cls:=YY E own ops) (tgt:=fun _=>n0) (msk:=fun _=>[]) (i:=i) (o:=⟨some d,.call {callee:= .value f,args:=args,argTypes:=ats},ty,pos,aft,grd⟩) (tm:=tm) H p H1 hw hci
  (.call _ _ _ _ _ _ _ rfl hf (by rw [ha];exact h)) hl
 exact this
end
def Yb (f t n:Int):Int:=if n=f then t else if n=t then f else n
def Ys:Bs→Int
 | []=> -1
 |c::r=>if 0≤Ys r then Ys r+1 else if c=35 then 0 else -1
def Zb1 (s:Bs):Bool:=match s with
 |a::b::_=>decide (a=101)&&decide (b=35)
 |_=>false
def nmP (f t:Int) (s:Bs):Bs:=if Zb1 s=true then s else
 if 0≤Ys s∧s.drop ((Ys s).toNat+1)=Lib.itoa f then s.take ((Ys s).toNat+1)++Lib.itoa (Yb f t f)
 else if 0≤Ys s∧s.drop ((Ys s).toNat+1)=Lib.itoa t then s.take ((Ys s).toNat+1)++Lib.itoa (Yb f t t) else s
def nmR (f t:Int) (s:Bs):Bs:=if s.length<2∨Zb1 s=true∨s.getD (s.length-2) 0≠35∨(s.getD (s.length-1) 0).toNat<48∨57<(s.getD (s.length-1) 0).toNat then s else
 s.take (s.length-1)++Lib.itoa (Yb f t (((s.getD (s.length-1) 0).toNat:Int)-48))
theorem QO:∀ s:Bs,0≤Ys s→s=s.take (Ys s).toNat++35::s.drop ((Ys s).toNat+1)
 | [],h=>absurd h (by decide)
 | c :: r, h => by
   simp only [Ys] at h ⊢
   split
   · rename_i h1
     have ih:=QO r h1
     have e:(Ys r+1).toNat=(Ys r).toNat+1:=by omega
     rw [e,List.take_succ_cons,List.drop_succ_cons,List.cons_append, ← ih]
   · rename_i h1
     rw [if_neg h1] at h
     split
     · rename_i h2
       rw [h2]
       rfl
     · rename_i h2
       rw [if_neg h2] at h
       exact absurd h (by decide)
theorem Zcw:∀ (p:Bs) (c:UInt8),c≠35→Ys (p++ [35,c])=p.length
 | [],c,h=>by simp [Ys,h]
 | x :: p, c, h => by
   have ih:=Zcw p c h
   rw [List.cons_append,Ys,ih,if_pos (by omega),List.length_cons]
   omega
theorem WV {n:Int} (h0:0≤n) (h1:n≤9):Lib.itoa n= [UInt8.ofNat (48+n.toNat)]:=by
 unfold Lib.itoa
 obtain ⟨m,rfl⟩:∃ m:Nat,n=m:=⟨n.toNat,by omega⟩
 have:¬ ((m:Int)<0):=by omega
 simp only [this,if_false]
 exact ZrY (by omega)
theorem Uz {f t n:Int} (hf:0≤f∧f≤9) (ht:0≤t∧t≤9) (hn:0≤n∧n≤9):0≤Yb f t n∧Yb f t n≤9:=by
 unfold Yb
 split
 · exact ht
 · split
   · exact hf
   · exact hn
theorem ZgY {c:UInt8} {f:Int} (hc:48≤c.toNat∧c.toNat≤57) (hf:0≤f∧f≤9):[c]=Lib.itoa f↔(c.toNat:Int)-48=f:=by
 rw [WV hf.1 hf.2]
 have e:(UInt8.ofNat (48+f.toNat)).toNat=48+f.toNat:=by
  simp only [UInt8.toNat_ofNat']
  omega
 constructor
 · intro h
   have h1:c=UInt8.ofNat (48+f.toNat):=by simpa using h
   rw [h1,e]
   omega
 · intro h
   have h1:c.toNat=(UInt8.ofNat (48+f.toNat)).toNat:=by rw [e];omega
   rw [UInt8.toNat_inj.1 h1]
theorem ZbT (p:Bs) (a c:UInt8):(p++ [a,c]).length=p.length+2∧(p++ [a,c]).getD ((p++ [a,c]).length-2) 0=a∧(p++ [a,c]).getD ((p++ [a,c]).length-1) 0=c∧(p++ [a,c]).take ((p++ [a,c]).length-1)=p++ [a]:=by
 have hl:(p++ [a,c]).length=p.length+2:=by simp
 refine ⟨hl,?_,?_,?_⟩
 · rw [hl, List.getD_eq_getElem?_getD, show p.length + 2 - 2 = p.length + 0 by omega, List.getElem?_append_right (by omega)]
   simp
 · rw [hl, List.getD_eq_getElem?_getD, show p.length + 2 - 1 = p.length + 1 by omega, List.getElem?_append_right (by omega)]
   simp
 · rw [hl,show p.length+2-1=p.length+1 by omega,show p++ [a,c]=(p++ [a])++ [c] by simp,List.take_left' (by simp)]
theorem Zea:∀ s:Bs,2≤s.length→∃ p a c,s=p++ [a,c]
 | [a,c],_=>⟨[],a,c,rfl⟩
 | x :: y :: z :: r, _ => by
   obtain ⟨p,a,c,h⟩:=Zea (y::z::r) (by simp)
   exact ⟨x::p,a,c,by rw [h];rfl⟩
theorem ZdH {f t:Int} (hf:0≤f∧f≤9) (ht:0≤t∧t≤9) (s:Bs):nmP f t s=nmR f t s:=by
 unfold nmP nmR
 cases ho:Zb1 s with
 |true=>simp
 | false =>
   rw [if_neg (by decide)]
   have key:∀ n:Int,0≤n∧n≤9→0≤Ys s→s.drop ((Ys s).toNat+1)=Lib.itoa n→s=s.take (Ys s).toNat++ [35,UInt8.ofNat (48+n.toNat)]:=fun n hn h0 h1=>by
    have:=QO s h0
    rw [h1,WV hn.1 hn.2] at this
    exact this
   have dig:∀ n:Int,0≤n∧n≤9→48≤(UInt8.ofNat (48+n.toNat)).toNat∧(UInt8.ofNat (48+n.toNat)).toNat≤57:=fun n hn=>by
    simp only [UInt8.toNat_ofNat']
    omega
   by_cases hs:∃ p c,s=p++ [35,c]∧48≤c.toNat∧c.toNat≤57
   · obtain ⟨p, c, rfl, hc⟩ := hs
     have hc35:c≠35:=fun h=>by rw [h] at hc;exact absurd hc.1 (by decide)
     obtain ⟨e1,e2,e3,e4⟩:=ZbT p 35 c
     rw [Zcw p c hc35,e2,e3,e4,e1]
     have d1:(p++ [35,c]).drop ((p.length:Int).toNat+1)= [c]:=by
      rw [Int.toNat_natCast,show p++ [35,c]=(p++ [35])++ [c] by simp,List.drop_left' (by simp)]
     have d2:(p++ [35,c]).take ((p.length:Int).toNat+1)=p++ [35]:=by
      rw [Int.toNat_natCast,show p++ [35,c]=(p++ [35])++ [c] by simp,List.take_left' (by simp)]
     rw [d1,d2,if_neg (c:=p.length+2<2∨_) (by simp;omega)]
     simp only [ZgY hc hf,ZgY hc ht]
     have h0:(0:Int)≤p.length:=by omega
     by_cases h1:(c.toNat:Int)-48=f
     · rw [if_pos ⟨h0,h1⟩,h1]
     · rw [if_neg (fun h => h1 h.2)]
       by_cases h2:(c.toNat:Int)-48=t
       · rw [if_pos ⟨h0,h2⟩,h2]
       · rw [if_neg (fun h => h2 h.2), Yb, if_neg h1, if_neg h2, ← (ZgY hc (f := (c.toNat : Int) - 48) ⟨by omega, by omega⟩).2 rfl]
         simp
   · rw [if_neg fun h => hs ⟨_, _, key f hf h.1 h.2, dig f hf⟩, if_neg fun h => hs ⟨_, _, key t ht h.1 h.2, dig t ht⟩]
     split
     · rfl
     · rename_i hn
       exfalso
       simp only [not_or,Nat.not_lt,ne_eq,Classical.not_not] at hn
       obtain ⟨n1,_,n2,n3,n4⟩:=hn
       obtain ⟨p,a,c,e⟩:=Zea s n1
       subst e
       obtain ⟨e1,e2,e3,e4⟩:=ZbT p a c
       rw [e2] at n2
       rw [e3] at n3 n4
       subst n2
       exact hs ⟨p,c,rfl,n3,n4⟩
mutual
def Tm.xt (g:Bs→Bs):Tm→Tm
 | .mk k nm s _ kz=> .mk k (if k=2 then g nm else nm) s true (xtL g kz)
def xtL (g:Bs→Bs):List Tm→List Tm
 | []=>[]
 |t::r=>t.xt g::xtL g r
end
mutual
def Tm.chg (g:Bs→Bs):Tm→Bool
 | .mk k nm _ _ kz=>(decide (k=2)&& !decide (g nm=nm))||U1 g kz
def U1 (g:Bs→Bs):List Tm→Bool
 | []=>false
 |t::r=>t.chg g||U1 g r
end
mutual
theorem ZoG (g:Bs→Bs):∀ t:Tm,(t.xt g).cl=t.cl↔t.chg g=false
 | .mk k nm s b kz => by
   simp only [Tm.xt,Tm.cl,Tm.chg,Tm.mk.injEq,true_and,ZgN g kz,Bool.or_eq_false_iff]
   refine and_congr_left fun _=>?_
   by_cases hk:k=2
   · rw [if_pos hk]
     simp [hk]
   · rw [if_neg hk]
     simp [hk]
theorem ZgN (g:Bs→Bs):∀ l:List Tm,clL (xtL g l)=clL l↔U1 g l=false
 | []=>by simp [xtL,U1]
 |t::r=>by simp only [xtL,clL,U1,List.cons.injEq,ZoG g t,ZgN g r,Bool.or_eq_false_iff]
end
def Tm.rn (g:Bs→Bs) (c:Bool) (t:Tm):Tm:=if t.chg g=true∧((t.xt g).nf c).2=0 then ((t.xt g).nf c).1 else t.xt g
def Mo.rn (f t:Int) (h:Tm→Tm) (m:Mo):Mo:={m with num:=if m.kind≠6 then Yb f t m.num else m.num,terms:=m.terms.map h}
def Mo.same (a b:Mo):Prop:=a.kind=b.kind∧a.num=b.num∧a.role=b.role∧a.goal=b.goal∧a.agents=b.agents∧a.terms.map Tm.cl=b.terms.map Tm.cl
section
variable {E:Env} {P:Program}
theorem Zdf {f : FuncId} {fn : Func} {c : Code} (hf : FnOk P f fn c) (hmono : E.mono = false) {r : PV}
  (h:∀ (g:Gh) (w:World) (vals:Array Value),(∀ b o v,g.S b o=some v→w.cell? ⟨b,o,none⟩=some v)→GOk E g→VL g args vals.toList→∃ v,V0 g.S r v∧Calls P f vals w fun e w'=>e= .returned v∧Below w.heap.size w w') :
  ∀ H,CallOk E P f args H r H:=by
 intro H g w vals hi hg hv
 obtain ⟨v,hv0,hc⟩:=h g w vals hi.st hg hv
 rw [ZH hf]
 refine Calls.mono hc fun e w' ⟨h1,hb⟩=>?_
 obtain ⟨j1,j2⟩:=Zci hi (fun k hk=>hb.block k hk) hb.size ⟨hb.os,hb.output,hb.tape,fun hm=>absurd (hg.2.1 hm) (by rw [hmono];simp)⟩
 exact ⟨v,h1,g,.pure _ _ hv0,j1,j2⟩
end
section
variable {E:Env} {P:Program}
section frz
variable {g':Gh} {H':Heap} {w':World} {S:Va}
theorem ZlX (hi' : Inv g' H' w') (hS : ∀ b o v, g'.S b o = some v → S b o = some v) (hO : ∀ id b o v, g'.σ id = some b → w'.cell? ⟨b, o, none⟩ = some v → S b o = some v)
  {id:Nat} (hp:V g' (.own id es 0 el.length) v) (hb:H'.bx[id]? = some (.cells es el)) (hl:el'.length=el.length) (hd:∀ i (h1:i<el.length) (h2:i<el'.length),Wf 0 H' el[i]=some el'[i]):V0 S (.sl .none es el') v:=by
 obtain ⟨b,cap,ad,hσ,hc,ha,hsp,rfl⟩:=hp.own_inv
 obtain ⟨b',c,T,h1,h2,h3,h4,h5,h6⟩:=hi'.bx _ _ _ hb
 rw [hσ] at h1;cases h1
 rw [← hl] at hc ha ⊢
 obtain ⟨ab,ao,asp⟩:=ad
 simp only at hsp
 subst hsp
 by_cases h0:el'.length=0
 · exact .sl .none es el' ⟨ab,ao,none⟩ ab ao cap (fun _ _=>undef) (fun _=>rfl) (.inl rfl) hc (fun i hi=>by omega) (fun i j hi=>by omega) (fun i hi=>by omega)
 · have := ha (by omega)
   cases this
   have hrow:∀ i (hi:i<el'.length),(el'[i]).length=es∧∀ j (hj:j<(el'[i]).length),∃ u,c[i*es+j]? = some u∧V0 S ((el'[i])[j]) u:=fun i hi=>by
    have hi2:i<el.length:=by omega
    obtain ⟨q1,q2⟩:=ZbI (hd i hi2 hi)
    have hw:(el'[i]).length=es:=by rw [q1];exact h3 _ hi2
    refine ⟨hw,fun j hj=>?_⟩
    obtain ⟨u,x1,x2⟩:=h5 i hi2 j (by rw [h3 _ hi2];omega)
    exact ⟨u,x1,ZdT hi' hS (fun id b o v _=>hO id b o v) x2 (q2 j (by rw [h3 _ hi2];omega) hj)⟩
   refine .sl .none es el' ⟨b,0*es,none⟩ b (0*es) cap (fun i j=>(c[i*es+j]?).getD undef) (fun _=>rfl) (.inl rfl) hc (fun i hi=>(hrow i hi).1) (fun i j hi hj=>?_) (fun i hi j hj=>?_)
   · obtain ⟨u, x1, -⟩ := (hrow i hi).2 j (by rw [(hrow i hi).1]; exact hj)
     refine hO id b _ _ hσ ?_
     simp [World.cell?,h2,x1]
   · obtain ⟨u, x1, x2⟩ := (hrow i hi).2 j hj
     simpa only [x1,Option.getD_some] using x2
end frz
theorem ZdP {f : FuncId} {args' : List PV} {id : Nat} {H' : Heap} (h : CallOk E P f args' hNil (.own id es 0 el.length) H') (ha : ZM args = some args') (hb : H'.bx[id]? = some (.cells es el)) (hl : el'.length = el.length)
  (hd:∀ i (h1:i<el.length) (h2:i<el'.length),Wf 0 H' el[i]=some el'[i]) (H:Heap):CallOk E P f args H (.sl .none es el') H:=by
 intro g w vals hi hg hv
 obtain ⟨l1,l2⟩:=XM ha
 have hv':VL (Zi7 g) args' vals.toList:=⟨by rw [l1];exact hv.1,fun i h1 h2=>V.pure (g:=Zi7 g) _ _ (show V0 g.S _ _ from Qf (hv.2 i (by omega) h2) (l2 i (by omega) h1))⟩
 refine UponCall.mono (fun v w' ⟨g',hp,hi',k⟩=>?_) (h (Zi7 g) w vals (ZeH hi) hg hv')
 obtain ⟨i1,k1,hS⟩:=Qg hi k
 have hq:V0 (VU g w w').S (.sl .none es el') v:=ZlX hi' (fun b o v h=>hS b o v h (hi'.st _ _ _ h)) (fun id b o v hσ hcell=>by
  have hb:w.heap.size≤b:=(k.new id b rfl hσ).elim (fun h=>h) fun ⟨_,_,a,_⟩=>(Wm a).elim
  simp [VU,Nat.not_lt.2 hb,hcell]) hp hb hl hd
 exact ⟨VU g w w',.pure _ _ hq,i1,k1⟩
end
section
variable {E:Env} {P:Program} {own:Tmp→Bool} {n:Nat} {K:TM→Heap→Prop} {tm:TM} {H:Heap}
end
def lkB {α:Type} [DecidableEq α] (k:α):List (α×Bool)→Bool
 | []=>false
 |(x,b)::r=>if k=x then b else lkB k r
def upB {α:Type} [DecidableEq α] (k:α) (v:Bool):List (α×Bool)→List (α×Bool)
 | []=>[(k,v)]
 |(x,b)::r=>if k=x then (k,v)::r else (x,b)::upB k v r
theorem ZkB {α:Type} [DecidableEq α] (k j:α) (v:Bool):∀ l:List (α×Bool),lkB j (upB k v l)=if j=k then v else lkB j l
 | []=>by simp [upB,lkB]
 | (x, b) :: r => by
   simp only [upB]
   split
   · rename_i h
     subst h
     simp only [lkB]
     split<;>rfl
   · rename_i h
     simp only [lkB,ZkB k j v r]
     split
     · rename_i h2
       subst h2
       rw [if_neg fun e=>h e.symm]
     · rfl
section
variable {E:Env} {t kt e:TypeId} {ti ei:TI} {id:Nat} {H:Heap}
end
