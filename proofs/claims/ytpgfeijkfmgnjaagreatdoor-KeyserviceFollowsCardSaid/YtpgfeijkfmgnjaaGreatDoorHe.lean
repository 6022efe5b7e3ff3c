/-
  The validity of a service, as the document says.
-/
import Derived.Test.YtpgfeijkfmgnjaaGreatDoorEc
set_option maxHeartbeats 0
set_option maxRecDepth 100000
namespace Go.Vm.Seat
variable {es i k nt:Nat} {name:Bs} {tl:Tail} {L:List (List PV)} {ei ti:TI} {T:TypeId} {b:Bool} {out:PV} {lv:List Nat} {c:UInt8}
open Go.Proofs
structure En where
 name:Bs
 key:Tm
 idx:Int
variable {K l:List En} {e:En}
def En.cells (e:En):List PV:= .str e.name::(e.key.cells++ [.int .i64 e.idx])
def enC (l:List En):List (List PV):=l.map En.cells
theorem Yj (l:List En):(enC l).length=l.length:=by simp [enC]
theorem WC (h:l[i]? = some e):(enC l)[i]? = some e.cells:=by simp [enC,h]
theorem ZaN (l:List En):(enC l).all (fun c=>c.all Z7)=true:=by
 rw [enC,List.all_map,List.all_eq_true]
 rintro ⟨nm,⟨k,n,s,b,kz⟩,i⟩ _
 simp only [Function.comp,En.cells,Tm.cells,List.cons_append,List.nil_append,List.all_cons,List.all_nil,Ya]
 rfl
theorem Ze9 (l:List En):noB (enC l)=true:=by
 rw [enC,noB,List.all_map,List.all_eq_true]
 rintro ⟨nm,⟨k,n,s,b,kz⟩,i⟩ _
 rfl
theorem ZaC (l m:List En):enC (l++m)=enC l++enC m:=by simp [enC]
theorem Zhm:ApT E0 27 27 6 80:=⟨_,_,_,_,_,rfl,rfl,rfl,rfl,rfl,rfl,rfl,by decide,rfl⟩
def WE (name:Bs) (l:List En):Nat:=(l.filter fun e=>Op.bytesLess e.name name).length
theorem Zfl (name:Bs) (l:List En):WE name l≤l.length:=List.length_filter_le _ _
theorem ZkD (h:l[i]? = some e):WE name (l.take (i+1))=WE name (l.take i)+if Op.bytesLess e.name name then 1 else 0:=by
 have h2:l.take (i+1)=l.take i++ [e]:=by
  rw [List.take_add_one,h]
  rfl
 rw [h2,WE,List.filter_append,List.length_append]
 congr 1
 simp only [List.filter_cons,List.filter_nil]
 split<;>simp_all
theorem Ztm (a b:Bs):ZP E0 .lss 9 (.str a) (.str b)=some (.bool (Op.bytesLess a b)):=rfl
theorem c171 (hll:l.length≤1000) (name:Bs) (b:Bool):∀ H,CallOk E0 Tryz.prog 171 [slV b 6 (enC l),.str name] H (.int .i64 (WE name l:Int)) H:=by
 have h1:=Yj l
 refine Jw tOk fe171.ok rfl ?_
 repeat' first|refine Jo ?_|fail
 refine Wp.while (fun k tm H=>∃ (i:Nat) (base:TM),i+k=l.length∧tm=ovr base [(0,slV b 6 (enC l)),(1,.str name),(5,.int .i64 (WE name (l.take i):Int)),(6,.int .i64 (i:Int))]∧H=⟨[],0,[],0⟩)
  (fun k tm H hI=>?_) l.length _ _ ⟨0,_,by omega,Zi ⟨rfl,rfl,rfl,rfl,trivial⟩,rfl⟩
 obtain ⟨i,base,hi,rfl,rfl⟩:=hI
 by_cases hlt:i<l.length
 · obtain ⟨e, he⟩ : ∃ e, l[i]? = some e := ⟨l[i], by simp⟩
   have hlx:ZP E0 .lss 3 (.int .i64 (i:Int)) (.int .i64 ((enC l).length:Int))=some (.bool true):=X3 (by omega)
   have hst:=ZkD (name:=name) he
   have hls:=Ztm e.name name
   have hle:=Zfl name (l.take i)
   rw [List.length_take] at hle
   have hj:=WC he
   generalize WE name (l.take i)=B at hst hle ⊢
   generalize hS:Op.bytesLess e.name name=S at hst hls
   obtain ⟨nm,⟨k',n',s',b',kz'⟩,x⟩:=e
   simp only [En.cells,Tm.cells,List.cons_append,List.nil_append] at hj hls
   cases S with
   | true =>
     repeat' first|refine Ji ?_|refine Jl ?_|refine Jx ?_|refine Jo ?_|fail
     exact LoopI.go (k-1) (by omega) ⟨i+1,_,by omega,Zi ⟨rfl,rfl,Zj (by rw [hst,if_pos rfl];exact Zg (n:=B+1) (by omega)),Zj (Zg (n:=i+1) (by omega)),trivial⟩,rfl⟩
   | false =>
     repeat' first|refine Ji ?_|refine Jl ?_|refine Jx ?_|refine Jo ?_|fail
     exact LoopI.go (k-1) (by omega) ⟨i+1,_,by omega,Zi ⟨rfl,rfl,Zj (by rw [hst];rfl),Zj (Zg (n:=i+1) (by omega)),trivial⟩,rfl⟩
 · have e : i = l.length := by omega
   subst e
   rw [List.take_length]
   have hlx:ZP E0 .lss 3 (.int .i64 (l.length:Int)) (.int .i64 ((enC l).length:Int))=some (.bool false):=Xo (by omega)
   repeat' first|refine Ji ?_|refine Jl ?_|refine Jo ?_|fail
   all_goals rfl
def ZmS (out:List En) (n:Nat) (e:En):List En:=out.take n++ [e]++out.drop n
def Qt (l:List Tm) (out:List En) (i:Nat) (t:Tm):List En:=
 if (Zt (Zf t).1.sub l.reverse).2.2=false∨(Zt (Zf t).1.sub l.reverse).2.1≠i then out else
  ZmS out (WE (Zf t).1.sub out) ⟨(Zf t).1.sub,(Zt (Zf t).1.sub l.reverse).1,((Zt (Zf t).1.sub l.reverse).2.1:Int)⟩
def YZ (l:List Tm):Nat→List En
 |0=>[]
 | i + 1 => match l[i]? with
   | some t=>Qt l (YZ l i) i t
   | none=>YZ l i
theorem U6 (l:List Tm):∀ i,(YZ l i).length≤i
 |0=>by simp [YZ]
 | i + 1 => by
   have ih:=U6 l i
   simp only [YZ]
   split
   · unfold Qt ZmS
     split
     · omega
     · simp only [List.length_append, List.length_take, List.length_drop, List.length_singleton]
       omega
   · omega
theorem W6 {name:Bs} {S:Nat} (h1:1≤S):∀ {l:List Tm},(∀ t,t∈l→t.Ok∧t.size≤S)→(Zt name l).1.Ok∧(Zt name l).1.size≤S∧(Zt name l).2.1≤l.length
 | [],_=>⟨Tm.ok_zero,by simpa [Zt,Tm.zero,Tm.size,Zx] using h1,Nat.zero_le _⟩
 | t :: r, h => by
   simp only [Zt]
   split
   · have := W0 (h t (by simp)).1 (h t (by simp)).2 h1
     exact ⟨this.1,this.2.1,by simp⟩
   · obtain ⟨a, b, c⟩ := W6 (name := name) h1 (l := r) fun u hu => h u (by simp [hu])
     exact ⟨a,b,by simp only [List.length_cons];omega⟩
def Us (S:Nat) (l:List En):Prop:=∀ e,e∈l→(e.key.Ok∧e.key.size≤S)∧e.name.length≤1000
theorem Zcm {l:List Tm} {S:Nat} (h1:1≤S) (h:∀ t,t∈l→t.Ok∧t.size≤S):∀ i,Us S (YZ l i)
 |0=>by intro e he;simp [YZ] at he
 | i + 1 => by
   have ih:=Zcm h1 h i
   simp only [YZ]
   split
   · rename_i t ht
     have hm:=List.mem_of_getElem? ht
     unfold Qt ZmS
     split
     · exact ih
     · intro e he
       simp only [List.mem_append,List.mem_singleton] at he
       rcases he with (he|rfl)|he
       · exact ih e (List.mem_of_mem_take he)
       · have a := W6 (name := (Zf t).1.sub) h1 (l := l.reverse) fun u hu => h u (List.mem_reverse.1 hu)
         exact ⟨⟨a.1,a.2.1⟩,(W0 (h t hm).1 (h t hm).2 h1).2.2⟩
       · exact ih e (List.mem_of_mem_drop he)
   · exact ih
theorem ZrY {e:TypeId} (hT:E0.T T=some ti) (hk:ti.tk= .slice e) (he:E0.T e=some ei) (hes:ei.size=es) (h:k≤L.length):∃ tl',ZW E0 T (.sl tl es L) none (some (.int .i64 (k:Int))) none=some (.sl tl' es (L.take k)):=by
 simp only [ZW,hT,hk,he,hes,if_true,U3,Xa,Zik]
 rw [if_pos (by simpa using h)]
 simp
theorem Zst {e:TypeId} (hT:E0.T T=some ti) (hk:ti.tk= .slice e) (he:E0.T e=some ei) (hes:ei.size=es) (h:k≤L.length):∃ tl',ZW E0 T (.sl tl es L) (some (.int .i64 (k:Int))) none none=some (.sl tl' es (L.drop k)):=by
 simp only [ZW,hT,hk,he,hes,if_true,U3,Xa,Zik]
 rw [if_pos (by simpa using h)]
 simp
theorem eSl:E0.T 27=some ⟨.slice 69,1,24,.nils⟩:=by kernel_rfl
theorem eEn:E0.T 69=some ⟨.struct [(0,9),(1,26),(5,3)],6,80,.agg [.str [],.int .i64 0,.str [],.int .i64 0,.nils,.int .i64 0]⟩:=by kernel_rfl
theorem ZhI (name:Bs) (key:Tm) (i:Int):Wr E0 69 [(0,.str name),(1,.agg key.cells),(2,.int .i64 i)]=some (.agg (En.mk name key i).cells):=by
 obtain ⟨k,nm,s,b,kz⟩:=key
 rfl
theorem ZqX (h : ApV b 6 L out lv nt) (hk : k ≤ L.length) :
  ∃ x y,ZW E0 27 out none (some (.int .i64 (k:Int))) none=some x∧ZW E0 27 out (some (.int .i64 (k:Int))) none none=some y∧ElV 6 x (L.take k)∧ElV 6 y (L.drop k):=by
 cases h with
 | nil _ _ _ =>
   obtain rfl:k=0:=by simpa using hk
   exact ⟨.nils,.nils,by simp only [ZW,eSl,eEn,U3,Xa];rfl,by simp only [ZW,eSl,eEn,U3,Xa];rfl,.nils 6,.nils 6⟩
 | full _ _ _ h =>
   obtain ⟨t1,h1⟩:=ZrY (tl:= .full) eSl rfl eEn rfl hk
   obtain ⟨t2,h2⟩:=Zst (tl:= .full) eSl rfl eEn rfl hk
   exact ⟨_,_,h1,h2,.sl _ _ _,.sl _ _ _⟩
 | tok _ t _ _ _ _ _ _ =>
   obtain ⟨t1,h1⟩:=ZrY (tl:= .tok t) eSl rfl eEn rfl hk
   obtain ⟨t2,h2⟩:=Zst (tl:= .tok t) eSl rfl eEn rfl hk
   exact ⟨_,_,h1,h2,.sl _ _ _,.sl _ _ _⟩
theorem Zf4 (l:List En) (k:Nat):(enC l).take k=enC (l.take k):=by simp [enC,List.map_take]
theorem Zft (l:List En) (k:Nat):(enC l).drop k=enC (l.drop k):=by simp [enC,List.map_drop]
theorem ZuK (h : ApV b 6 (enC K) out lv nt) (hK : K.length ≤ 1000) {n : Nat} (hn : n ≤ K.length) (e : En) :
  ∃ x y o1 lv1 nt1 o2 lv2 nt2 o3 lv3 nt3,ZW E0 27 out none (some (.int .i64 (n:Int))) none=some x∧ZW E0 27 out (some (.int .i64 (n:Int))) none none=some y∧
   (∀ bx ro,Yf E0 27 27 (.sl .full 6 []) x ⟨bx,ro,lv,nt⟩=some (o1,⟨bx,ro,lv1,nt1⟩))∧
   (∀ bx ro,Yf E0 27 27 o1 (.sl .full 6 [e.cells]) ⟨bx,ro,lv1,nt1⟩=some (o2,⟨bx,ro,lv2,nt2⟩))∧
   (∀ bx ro,Yf E0 27 27 o2 y ⟨bx,ro,lv2,nt2⟩=some (o3,⟨bx,ro,lv3,nt3⟩))∧ApV false 6 (enC (ZmS K n e)) o3 lv3 nt3:=by
 obtain ⟨x,y,hx,hy,ex,ey⟩:=ZqX h (k:=n) (by rw [Yj];exact hn)
 rw [Zf4] at ex
 rw [Zft] at ey
 have h0:ApV false 6 (enC []) (.sl .full 6 []) lv nt:= .full [] _ _ rfl rfl
 obtain ⟨o1,lv1,nt1,a1,A1, -⟩:=h0.app Zhm ex (ZaN _) (ZZ (by simp only [Yj,List.length_nil,List.length_take];omega) (by decide)) (Ze9 _)
 rw [← ZaC,List.nil_append] at A1
 have e1:ElV 6 (.sl .full 6 [e.cells]) (enC [e]):= .sl _ _ _
 obtain ⟨o2,lv2,nt2,a2,A2, -⟩:=A1.app Zhm e1 (ZaN _) (ZZ (by simp only [Yj,List.length_take,List.length_cons,List.length_nil];omega) (by decide)) (Ze9 _)
 rw [← ZaC] at A2
 obtain ⟨o3,lv3,nt3,a3,A3, -⟩:=A2.app Zhm ey (ZaN _) (ZZ (by simp only [Yj,List.length_append,List.length_take,List.length_drop,List.length_cons,List.length_nil];omega) (by decide)) (Ze9 _)
 rw [← ZaC] at A3
 exact ⟨x,y,o1,lv1,nt1,o2,lv2,nt2,o3,lv3,nt3,hx,hy,a1,a2,a3,A3⟩
theorem Zjs {a b:Int} (h:a=b):ZP E0 .neq 3 (.int .i64 a) (.int .i64 b)=some (.bool false):=by
 show some (PV.bool (!(a==b)))=_
 rw [h,beq_self_eq_true]
 rfl
theorem ZmX (K:List En) (n:Nat) (e:En):ZmS K n e≠ []:=by simp [ZmS]
theorem Zvb (b c:Bool) (h:L≠ []):slV b 6 L=slV c 6 L:=by
 cases L with
 |nil=>exact absurd rfl h
 |cons a r=>rw [Zw,Zw]
theorem ZoX (h:K= []→b=true):slV b 6 (enC K)=slV true 6 (enC K):=by
 cases K with
 |nil=>rw [h rfl]
 |cons a r=>exact Zvb _ _ (by simp [enC])
theorem ZsB {l:List Tm} (hok:∀ t,t∈l→t.Ok) (hs:∀ t,t∈l→t.size≤900) (hll:l.length≤40) (b:Bool):∀ H,CallOk E0 Tryz.prog 132 [slV b 4 (Za l)] H (slV true 6 (enC (YZ l l.length))) H:=by
 have h1:=Zb l
 refine Zm (own:=(fun d=>[5048,5055,5059].any (Nat.beq d))) tOk fe132.ok (by simp only [ZJ,Yy]) (Y5 _ _ _ _ _) ?_
 refine Wp.seq ?_
 repeat' first|refine Jo ?_|fail
 refine Wp.while (fun k tm H => ∃ (i : Nat) (c : Bool) (base : TM) (out : PV) (lv : List Nat) (nt : Nat), i + k = l.length ∧ (YZ l i = [] → c = true) ∧ ApV c 6 (enC (YZ l i)) out lv nt ∧
   tm=ovr base [(0,slV b 4 (Za l)),(3,out),(4,.int .i64 (i:Int))]∧H=⟨[],0,lv,nt⟩)
  (fun k tm H hI=>Wp.drop ?_) l.length _ _ ⟨0,true,_,_,_,_,by omega,fun _=>rfl,.nil _ _ rfl,Zi ⟨rfl,rfl,rfl,trivial⟩,rfl⟩
 obtain ⟨i,c,base,out,lv,nt,hi,hc,hA,rfl,rfl⟩:=hI
 have hun:=hA.under 0
 by_cases hlt:i<l.length
 · obtain ⟨t, ht⟩ : ∃ t, l[i]? = some t := ⟨l[i], by simp⟩
   have hm:=List.mem_of_getElem? ht
   have hlx:ZP E0 .lss 3 (.int .i64 (i:Int)) (.int .i64 ((Za l).length:Int))=some (.bool true):=X3 (by omega)
   have hr:=ZqC (hok t hm) (by have:=hs t hm;omega)
   have hf:=c94 hok hs hll (name:=(Zf t).1.sub) b
   have hkl:=U6 l i
   have hbl:=Zfl (Zf t).1.sub (YZ l i)
   have hb:=fun q=>c171 (l:=YZ l i) (by omega) (Zf t).1.sub q
   have hst:YZ l (i+1)=Qt l (YZ l i) i t:=by simp only [YZ,ht]
   unfold Qt at hst
   generalize YZ l i=K at hA hkl hbl hb hst hc
   generalize Zf t=R at hr hf hbl hb hst
   obtain ⟨⟨sub,⟨k8,nm8,s8,b8,kz8⟩,iss,pn,per,en,exc,ser,fr,till⟩,R2⟩:=R
   simp only [] at hr hf hbl hb hst
   generalize Zt sub l.reverse=F at hf hst
   obtain ⟨X,n,ok⟩:=F
   simp only [] at hf hst
   obtain ⟨x,y,o1,lv1,nt1,o2,lv2,nt2,o3,lv3,nt3,hx,hy,a1,a2,a3,A3⟩:=ZuK hA (by omega) hbl ⟨sub,X,(n:Int)⟩
   have hbd:=ZhI sub X n
   have hbf:∀ H,CallOk E0 Tryz.prog 171 [out,.str sub] H (.int .i64 (WE sub K:Int)) H:=by
    have e:=hA.frzG
    exact fun H=>Y4 (hb c H) (by simp only [ZJ,e];rfl)
   obtain ⟨kx,nx,sx,bx,kzx⟩:=X
   obtain ⟨kt,nt',st,bt,kzt⟩:=t
   have hj:=Zn ht
   simp only [Cred.cells,En.cells,Tm.cells,List.cons_append,List.nil_append] at hr hf hbd a2
   clear hb hm
   cases ok with
   | false =>
     rw [if_pos (.inl rfl)] at hst
     repeat' first|refine Jk ?_|refine Jc (hr _) ?_|refine Jc (hf _) ?_|refine Ji ?_|refine Jl ?_|refine Jx ?_|refine Jt ?_|refine Jo ?_|fail
     exact DropQ.go [(0,slV b 4 (Za l)),(3,out),(4,.int .i64 ((i+1:Nat):Int))] ⟨rfl,rfl,Zj (Zg (n:=i+1) (by omega)),trivial⟩
      (by simp [Zl,under,hun]) rfl rfl (LoopI.go (k-1) (by omega) ⟨i+1,c,_,out,lv,nt,by omega,by rw [hst];exact hc,by rw [hst];exact hA,rfl,rfl⟩)
   | true =>
     by_cases hn:n=i
     · rw [if_neg (by simp [hn])] at hst
       have bn:=Zjs (a:=(n:Int)) (b:=(i:Int)) (by omega)
       have hun3:=A3.under 0
       repeat' first|(apply qCl;rfl;rfl;rfl;rfl;first|exact hr _|exact hf _|exact hbf _)|refine Ji ?_|refine Jl ?_|refine Jx ?_|refine Jt ?_|refine Jo ?_|refine JB ?_|(apply dAq;rfl;rfl;rfl;rfl;rfl;rfl;(first|assumption|solve_by_elim))|(apply dSl;rfl;rfl;rfl;rfl;rfl;rfl;assumption;exact IsV.any _;rfl)|(apply dBd;rfl;rfl;rfl;assumption;exact IsV.aggN;rfl)|refine Jh ?_|(apply Wp.draw tOk follows;kernel_rfl)|fail
       exact DropQ.go [(0,slV b 4 (Za l)),(3,o3),(4,.int .i64 ((i+1:Nat):Int))] ⟨rfl,rfl,Zj (Zg (n:=i+1) (by omega)),trivial⟩
        (by simp [Zl,under,hun3]) rfl rfl (LoopI.go (k-1) (by omega) ⟨i+1,false,_,o3,lv3,nt3,by omega,by rw [hst];exact fun h=>absurd h (ZmX _ _ _),by rw [hst];exact A3,rfl,rfl⟩)
     · rw [if_pos (.inr hn)] at hst
       have bn:=Zif (a:=(n:Int)) (b:=(i:Int)) (by omega)
       repeat' first|refine Jc (hr _) ?_|refine Jc (hf _) ?_|refine Ji ?_|refine Jl ?_|refine Jx ?_|refine Jt ?_|refine Jo ?_|fail
       exact DropQ.go [(0,slV b 4 (Za l)),(3,out),(4,.int .i64 ((i+1:Nat):Int))] ⟨rfl,rfl,Zj (Zg (n:=i+1) (by omega)),trivial⟩
        (by simp [Zl,under,hun]) rfl rfl (LoopI.go (k-1) (by omega) ⟨i+1,c,_,out,lv,nt,by omega,by rw [hst];exact hc,by rw [hst];exact hA,rfl,rfl⟩)
 · have e : i = l.length := by omega
   subst e
   have hlx:ZP E0 .lss 3 (.int .i64 (l.length:Int)) (.int .i64 ((Za l).length:Int))=some (.bool false):=Xo (by omega)
   have hfin:=fun m H=>hA.frz3 m H
   rw [ZoX hc] at hfin
   repeat' first|refine Ji ?_|refine Jl ?_|refine Jo ?_|fail
   all_goals exact hfin _ _
def Xq (s:Bs):Bool:= !(s.any fun c=>c==35)&&Vs s
theorem ZhU {s:Bs} (h:s[i]? = some c) (hc:c=35):Xq s=false:=by
 have:s.any (fun c=>c==35)=true:=List.any_eq_true.2 ⟨c,List.mem_of_getElem? h,by simp [hc]⟩
 simp [Xq,this]
theorem ZiU (h:((c.toNat:Int)==35)=true):c=35:=by
 have h1:(c.toNat:Int)=35:=by simpa using h
 have h2:c.toNat=(35:UInt8).toNat:=by
  have:(35:UInt8).toNat=35:=rfl
  omega
 exact UInt8.toNat_inj.1 h2
theorem c47 (s:Bs) (hs:s.length≤100000):∀ H,CallOk E0 Tryz.prog 47 [.str s] H (.bool (Xq s)) H:=by
 have hn:=c89 s (by unfold maxLen;omega)
 refine Jw tOk fe47.ok rfl ?_
 repeat' first|refine Jt ?_|refine Jo ?_|fail
 refine Wp.while (fun k tm H=>∃ (i:Nat) (base:TM),i+k=s.length∧((s.take i).any fun c=>c==35)=false∧tm=ovr base [(0,.str s),(3,.int .i64 (i:Int))]∧H=⟨[],0,[],0⟩)
  (fun k tm H hI=>?_) s.length _ _ ⟨0,_,by omega,by simp,Zi ⟨rfl,rfl,trivial⟩,rfl⟩
 obtain ⟨i,base,hi,hI,rfl,rfl⟩:=hI
 by_cases hlt:i<s.length
 · obtain ⟨c, hc⟩ : ∃ c, s[i]? = some c := ⟨s[i], by simp⟩
   have hlx:ZP E0 .lss 3 (.int .i64 (i:Int)) (.int .i64 (s.length:Int))=some (.bool true):=X3 (by omega)
   have hj:=Zlf hc
   repeat' first|refine JX ?_|refine Ji ?_|refine Jt ?_|refine Jb ?_ ?_|refine Jo ?_|intro hb
   · rw [ZhU hc (ZiU hb)]
   · have hne : ¬ c = 35 := fun e => by rw [e] at hb; exact absurd hb (by decide)
     refine LoopI.go (k-1) (by omega) ⟨i+1,_,by omega,?_,Zi ⟨rfl,Zj (Zg (n:=i+1) (by omega)),trivial⟩,rfl⟩
     rw [List.take_add_one,hc]
     simp only [List.any_append,hI,Bool.false_or,Option.toList,List.any_cons,List.any_nil,Bool.or_false]
     simpa using hne
 · have e : i = s.length := by omega
   subst e
   rw [List.take_length] at hI
   have hlx:ZP E0 .lss 3 (.int .i64 (s.length:Int)) (.int .i64 (s.length:Int))=some (.bool false):=Xo (by omega)
   have hr:Xq s=Vs s:=by simp only [Xq,hI,Bool.not_false,Bool.true_and]
   rw [hr]
   repeat' first|refine Jc (hn _) ?_|refine Ji ?_|refine Jb ?_ ?_|refine Jo ?_|intro hb
   all_goals first|rfl|rw [hb]
def skT (name:Bs):Tm:= .mk 3 [115,107] 0 true [.mk 2 name 1 true []]
theorem ZaE (h:name.length≤1000):(skT name).Ok∧(skT name).size=2:=
 ⟨ok1 (by decide) (.mk (by decide) (by decide) (by unfold maxLen;omega) (by unfold maxLen;decide) (by simp)),rfl⟩
theorem c48 (name:Bs):∀ H,CallOk E0 Tryz.prog 48 [.str name] H (.agg (skT name).cells) H:=by
 have h1:=c39 name 1
 have h2:=Zmx [115,107] (Yn name 1)
 have hfr:=Zz 0 hNil (skT name)
 have e:Tm.mk 3 [115,107] 0 true [Yn name 1]=skT name:=rfl
 rw [e] at h2
 generalize skT name=R at h2 hfr ⊢
 generalize Yn name 1=A at h1 h2
 obtain ⟨k,nm,s,b,kz⟩:=R
 obtain ⟨k1,nm1,s1,b1,kz1⟩:=A
 simp only [Tm.cells] at h1 h2 hfr ⊢
 refine Jw tOk fe48.ok hfr ?_
 repeat' first|refine Jc (h1 _) ?_|refine Jc (h2 _) ?_|refine Js ?_|refine Jo ?_|fail
 all_goals exact Z6 _ _ _ _ _ _ _
theorem ZeH (t:Tm):frzG (.agg t.cells)=some (.agg t.cells):=by
 obtain ⟨k,nm,s,tb,kz⟩:=t
 simp only [Tm.cells,frzG,XY,ZD]
 rfl
theorem ZuU (b:Bool) (L:List (List PV)) (t k:Tm):ZJ [slV b 4 L,.agg t.cells,.agg k.cells]=some [slV b 4 L,.agg t.cells,.agg k.cells]:=by
 simp only [ZJ,Yy,ZeH]
def ZjV (B1 B2 B3 B4 F W:Bool) (Z:Bool):Bool:=if B1=true then false else if B2=true∨B3=false∨B4=true then false else ((F&&W)==Z)
def Zbk (l:List Tm) (t k:Tm):Bool:=
 ZjV (decide ((Zf t).2≠0)) (decide (((Zv (Zf t).1.sub (Zf t).1.key l.length (Zf t).1.till).issue k).2≠0)) (decide (t.cmp ((Zv (Zf t).1.sub (Zf t).1.key l.length (Zf t).1.till).issue k).1=0))
  (decide ((Zf t).1.till≠0)&&decide ((Zf t).1.till≠9999)) (Zt (Zf t).1.sub l.reverse).2.2 (decide ((Zt (Zf t).1.sub l.reverse).1.cmp (Zf t).1.key=0)) (decide ((Zf t).1.till=0))
theorem Zmp (a b:Int):ZP E0 .neq 3 (.int .i64 a) (.int .i64 b)=some (.bool (decide (a≠b))):=by
 show some (PV.bool (!(a==b)))=_
 by_cases h:a=b<;>simp [h]
theorem Zo6 (a b:Int):ZP E0 .eql 3 (.int .i64 a) (.int .i64 b)=some (.bool (decide (a=b))):=by
 show some (PV.bool (a==b))=_
 by_cases h:a=b<;>simp [h]
theorem Zuu {l : List Tm} (hok : ∀ t, t ∈ l → t.Ok) (hs : ∀ t, t ∈ l → t.size ≤ 900) (hll : l.length ≤ 40) (b : Bool) {t k : Tm} (ht : t.Ok) (hts : t.size ≤ 900) (hk : k.Ok) (hks : k.size ≤ 900) : ∀ H,
  CallOk E0 Tryz.prog 130 [slV b 4 (Za l),.agg t.cells,.agg k.cells] H (.bool (Zbk l t k)) H:=by
 obtain ⟨r1,r2,r3⟩:=W0 ht hts (by omega)
 have cr:=ZqC ht (by omega)
 have ce:=c92 (Zf t).1.sub (Zf t).1.key l.length (Zf t).1.till
 have ci:=ZrC (Zv (Zf t).1.sub (Zf t).1.key l.length (Zf t).1.till) (key:=k) (by simp only [Zv];omega) (by simp [Zv]) (by simp [Zv]) (by simp [Zv]) (by simp [Zv]) r1 (by simp only [Zv];omega) hk (by omega)
 have hio:=Xe (x:=Zv (Zf t).1.sub (Zf t).1.key l.length (Zf t).1.till) (key:=k) r1 hk
 have hio2:((Zv (Zf t).1.sub (Zf t).1.key l.length (Zf t).1.till).issue k).1.size≤1000000:=by
  have:=hio.2
  simp only [Zv] at this ⊢
  omega
 have cq:=c13 ht hio.1 (by omega) hio2
 have cf:=c94 hok hs hll (name:=(Zf t).1.sub) b
 have hlo:=W6 (name:=(Zf t).1.sub) (S:=900) (by omega) (l:=l.reverse) fun u hu=>⟨hok u (List.mem_reverse.1 hu),hs u (List.mem_reverse.1 hu)⟩
 have cw:=c13 hlo.1 r1 (by have:=hlo.2.1;omega) (by omega)
 have e1:=YF (Zf t).2
 have e2:=YF ((Zv (Zf t).1.sub (Zf t).1.key l.length (Zf t).1.till).issue k).2
 have e3:=Zmp (Zf t).1.till 0
 have e4:=Zmp (Zf t).1.till 9999
 have e5:=Zo6 (Zf t).1.till 0
 have hln:=Zb l
 unfold Zbk
 rw [YH] at ce
 have ci:∀ H,CallOk E0 Tryz.prog 138 [.agg (.str (Zf t).1.sub::((Zf t).1.key.cells++ [.bool false,.nils,.nils,.int .i64 (l.length:Int),.int .i64 0,.int .i64 (Zf t).1.till])),.agg k.cells] H (.tup [.agg ((Zv (Zf t).1.sub (Zf t).1.key l.length (Zf t).1.till).issue k).1.cells,.int .i64 ((Zv (Zf t).1.sub (Zf t).1.key l.length (Zf t).1.till).issue k).2]) H:=by
  rw [← YH]
  exact ci
 clear hio hio2 hlo r1 r2 r3 ht hts hk hks hok hs hll
 generalize (Zv (Zf t).1.sub (Zf t).1.key l.length (Zf t).1.till).issue k=I at ci cq e2 ⊢
 generalize Zf t=R at cr ce ci cf cw e1 e3 e4 e5 ⊢
 obtain ⟨⟨sub,⟨k8,nm8,s8,b8,kz8⟩,iss,pn,per,en',exc,ser,fr,till⟩,R2⟩:=R
 obtain ⟨I,I2⟩:=I
 simp only [] at cr ce ci cf cw e1 e2 e3 e4 e5 cq ⊢
 generalize Zt sub l.reverse=F at cf cw ⊢
 obtain ⟨X,n,ok⟩:=F
 simp only [] at cf cw ⊢
 rw [← hln] at ce ci
 generalize Za l=L at ce ci cf ⊢
 generalize decide (R2≠0)=B1 at e1 ⊢
 generalize decide (I2≠0)=B2 at e2 ⊢
 generalize decide (t.cmp I=0)=B3 at cq ⊢
 generalize decide (X.cmp (.mk k8 nm8 s8 b8 kz8)=0)=W at cw ⊢
 generalize decide (till≠0)=B4 at e3 ⊢
 generalize decide (till≠9999)=B5 at e4 ⊢
 generalize decide (till=0)=Z at e5 ⊢
 clear hln
 obtain ⟨kt,nmt,st,bt,kzt⟩:=t
 obtain ⟨kk,nmk,sk,bk,kzk⟩:=k
 obtain ⟨ki,nmi,si,bi',kzi⟩:=I
 obtain ⟨kx,nmx,sx,bx,kzx⟩:=X
 simp only [Cred.cells,Tm.cells,List.cons_append,List.nil_append] at cr ce ci cq cf cw ⊢
 have hO : (B1 = true) ∨ (B1 = false ∧ B2 = true) ∨ (B1 = false ∧ B2 = false ∧ B3 = false) ∨ (B1 = false ∧ B2 = false ∧ B3 = true ∧ B4 = true ∧ B5 = true) ∨ (B1 = false ∧ B2 = false ∧ B3 = true ∧ B4 = true ∧ B5 = false ∧ ok = false) ∨ (B1 = false ∧ B2 = false ∧ B3 = true ∧ B4 = false ∧ ok = false)
   ∨(B1=false∧B2=false∧B3=true∧B4=true∧B5=false∧ok=true)∨(B1=false∧B2=false∧B3=true∧B4=false∧ok=true):=by
  cases B1<;>cases B2<;>cases B3<;>cases B4<;>cases B5<;>cases ok<;>simp
 rcases hO with rfl|⟨rfl,rfl⟩|⟨rfl,rfl,rfl⟩|⟨rfl,rfl,rfl,rfl,rfl⟩|⟨rfl,rfl,rfl,rfl,rfl,rfl⟩|⟨rfl,rfl,rfl,rfl,rfl⟩|⟨rfl,rfl,rfl,rfl,rfl,rfl⟩|⟨rfl,rfl,rfl,rfl,rfl⟩
 all_goals simp only [ZjV,Bool.true_eq_false,Bool.false_eq_true,if_false,if_true,or_true,true_or,or_self,Bool.and_true,Bool.and_false,Bool.true_and,Bool.false_and]
 all_goals
  refine Zm (own:=fun d=>Nat.beq d 30015) tOk fe130.ok (ZuU b L (.mk kt nmt st bt kzt) (.mk kk nmk sk bk kzk)) rfl ?_
  refine Wp.seq ?_
  repeat' first|refine Jk ?_|(apply qCl;rfl;rfl;rfl;rfl;first|exact cr _|exact cq _|exact cf _|exact cw _)|refine Ji ?_|refine Jt ?_|refine Jo ?_|refine Jd (ce _) ?_|refine Jd (ci _) ?_|(apply dAl;rfl;rfl;rfl;rfl;exact IsV.ptrM;exact IsH.mkN)|(apply dLn;rfl;rfl;rfl;rfl;rfl)|refine Jh ?_|(apply dWB tOk follows;rfl;kernel_rfl;rfl;exact IsH.mkN)|fail
 all_goals rfl
def Wf (l:List Tm) (k:Tm):Tm×Tm×Bool:=if (Zy l).2≠0 then (.zero,.zero,false) else ((Zy l).1,(Z5 id (Zy l).1 l.length k).1,decide ((Z5 id (Zy l).1 l.length k).2=0))
theorem ZoY (b:Bool) (L:List (List PV)) (k:Tm):ZJ [slV b 4 L,.agg k.cells]=some [slV b 4 L,.agg k.cells]:=by
 simp only [ZJ,Yy,ZeH]
theorem ZvF {l:List Tm} (hl:∀ t,t∈l→t.Ok∧t.size≤900) (b:Bool) {k:Tm} (hk:k.Ok) (hks:k.size≤900):∀ H,CallOk E0 Tryz.prog 131 [slV b 4 (Za l),.agg k.cells] H (.tup [.agg (Wf l k).1.cells,.agg (Wf l k).2.1.cells,.bool (Wf l k).2.2]) H:=by
 have c1:=Zvs (fun t ht=>⟨(hl t ht).1,by have:=(hl t ht).2;omega⟩) b
 have hh:=Qz hl
 have be:=YF (Zy l).2
 have c2:=ZtD hh.1 (by have:=hh.2;omega) hk (by omega) (l.length:Int)
 have hfr:=VO 0 hNil (Wf l k).1 (Wf l k).2.1 (Wf l k).2.2
 have hft:=fun m H=>VO m H (Wf l k).1 (Wf l k).2.1 (Wf l k).2.2
 have hln:=Zb l
 unfold Wf at hfr hft ⊢
 by_cases he:(Zy l).2=0
 · rw [decide_eq_false (not_not_intro he)] at be
   rw [if_neg (not_not_intro he)] at hfr hft ⊢
   clear he hh
   generalize Zy l=R at c1 c2 be hfr hft ⊢
   obtain ⟨X,e⟩:=R
   simp only [] at c1 c2 be hfr hft ⊢
   rw [← hln] at c2 hfr hft ⊢
   generalize Z5 id X ((Za l).length:Int) k=S at c2 hfr hft ⊢
   obtain ⟨Y,e2⟩:=S
   simp only [] at c2 hfr hft ⊢
   have e3:ZP E0 .eql 30 (.int .i64 e2) (.int .i64 0)=some (.bool (decide (e2=0))):=by
    show some (PV.bool (e2==0))=_
    by_cases h:e2=0<;>simp [h]
   have hfz:=ZoY b (Za l) k
   obtain ⟨k1,nm1,s1,b1,kz1⟩:=X
   obtain ⟨k2,nm2,s2,b2,kz2⟩:=Y
   obtain ⟨k3,nm3,s3,b3,kz3⟩:=k
   simp only [Tm.cells] at c1 c2 hfr hft hfz ⊢
   refine Zm (own:=(fun d=>[29999,50032,50041,40216,40217,40226].any (Nat.beq d))) tOk fe131.ok hfz hfr ?_
   refine Wp.seq ?_
   repeat' first|refine Jc (c1 _) ?_|refine Jc (c2 _) ?_|refine Ji ?_|refine Jl ?_|refine Jt ?_|refine Jo ?_|refine JD ?_|refine Jh ?_|(apply Wp.drawS tOk follows;kernel_rfl;rfl)|fail
   all_goals exact hft _ _
 · rw [decide_eq_true he] at be
   rw [if_pos he] at hfr ⊢
   clear c2 hh hft
   generalize Zy l=R at c1 be ⊢
   obtain ⟨X,e⟩:=R
   simp only [] at c1 be ⊢
   have hfz:=ZoY b (Za l) k
   rw [Zk] at hfr ⊢
   obtain ⟨k1,nm1,s1,b1,kz1⟩:=X
   obtain ⟨k3,nm3,s3,b3,kz3⟩:=k
   simp only [Tm.cells] at c1 hfz ⊢
   refine Zm (own:=(fun d=>[29999,50032,50041,40216,40217,40226].any (Nat.beq d))) tOk fe131.ok hfz hfr ?_
   refine Wp.seq ?_
   repeat' first|refine Jc (c1 _) ?_|refine Ji ?_|refine Jt ?_|refine Jo ?_|fail
   all_goals rfl
structure Sv where
 name:Bs
 key:Tm
 lb:Bool
 log:List Tm
 kb:Bool
 keys:List En
def Sv.cells (s:Sv):List PV:= .str s.name::(s.key.cells++ [slV s.lb 4 (Za s.log),slV s.kb 6 (enC s.keys)])
structure SvOk (s:Sv):Prop where
 n:s.name.length≤1000
 k:s.key.Ok
 ks:s.key.size≤900
 l:∀ t,t∈s.log→t.Ok
 ls:∀ t,t∈s.log→t.size≤900
 ll:s.log.length≤40
 e:Us 900 s.keys
 el:s.keys.length≤1000
def Zjk (log:List Tm) (k:Tm):Nat→Nat→Bool
 |_,0=>true
 | i, m + 1 => match log[i]? with
   | some t=>Zbk (log.take i) t k&&Zjk log k (i+1) m
   | none=>true
def enB:List En→List En→Bool
 | [],[]=>true
 |x::r,y::r'=>decide (x.name=y.name)&&(decide (x.idx=y.idx)&&(decide (x.key.cmp y.key=0)&&enB r r'))
 |_,_=>false
theorem ZeR:∀ {l m:List En},l.length≠m.length→enB l m=false
 | [],[],h=>absurd rfl h
 | [],_::_,_=>rfl
 |_::_,[],_=>rfl
 | x :: r, y :: r', h => by
   simp only [enB,ZeR (l:=r) (m:=r') (fun e=>h (by simp [e])),Bool.and_false]
def svV (s:Sv):Int:=if Xq s.name=false then 1 else if s.key.cmp (skT s.name)≠0 then 1 else if 32<s.log.length then 1 else if Zjk s.log s.key 0 s.log.length=false then 1 else if (Wf s.log s.key).2.2=false then 1 else
 if enB (YZ s.log s.log.length) s.keys=false then 1 else 0
