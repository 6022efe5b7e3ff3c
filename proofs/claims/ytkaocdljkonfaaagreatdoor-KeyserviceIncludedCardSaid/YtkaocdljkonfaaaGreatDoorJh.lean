/-
  A service is valid for the program just where the document says so. New services and new readers, as the document says. New services and new readers, 
-/
import Derived.Test.YtkaocdljkonfaaaGreatDoorJf
set_option maxHeartbeats 64000000
set_option maxRecDepth 100000
namespace Go.Vm.Seat
variable {name:Bs} {L M r:List En} {a e:En} {l:List Tm} {s:Sv}
open Go.Proofs
theorem Yo (name:Bs) (a:En) (r:List En):ZI name (a::r)=if a.name=name then some a else ZI name r:=by
 unfold ZI
 by_cases h:a.name=name
 · rw [List.find?_cons_of_pos (by simpa using h),if_pos h]
 · rw [List.find?_cons_of_neg (by simpa using h),if_neg h]
theorem Zcy (name:Bs) (L M:List En):ZI name (L++M)=(ZI name L).or (ZI name M):=by
 unfold ZI
 exact List.find?_append
theorem Zc4 (h:∀ e,e∈L→e.name≠name):ZI name L=none:=by
 unfold ZI
 rw [List.find?_eq_none]
 intro e he
 simpa using h e he
theorem Zif (h:ZI name L=some e):e.name=name:=by
 unfold ZI at h
 have:=List.find?_some h
 simpa using this
theorem Wd (name sub:Bs):∀ (L:List En),ZI name (L.filter (Yd sub))=if name=sub then none else ZI name L
 | []=>by simp [ZI]
 | a :: r => by
   have ih:=Wd name sub r
   by_cases ha:a.name=sub
   · rw [List.filter_cons_of_neg (by simp [Yd, ha]), ih, Yo]
     by_cases hn:name=sub
     · rw [if_pos hn,if_pos hn]
     · rw [if_neg hn,if_neg hn,if_neg (fun e=>hn (by rw [← e,ha]))]
   · rw [List.filter_cons_of_pos (by simp [Yd, ha]), Yo, Yo, ih]
     by_cases hn:name=sub
     · rw [if_pos hn,if_pos hn,if_neg (by rw [hn];exact ha)]
     · rw [if_neg hn,if_neg hn]
theorem ZcB {p:Nat} (hM:∀ u,u∈M→u.name≠e.name):ZI name (Za6 M p e)=if name=e.name then some e else ZI name M:=by
 have h0:ZI name M=(ZI name (M.take p)).or (ZI name (M.drop p)):=by rw [← Zcy,List.take_append_drop]
 unfold Za6
 rw [Zcy,Zcy,Yo,h0]
 by_cases hn:name=e.name
 · rw [if_pos hn, if_pos hn.symm, Zc4 (L := M.take p) (fun u hu => by rw [hn]; exact hM u (List.mem_of_mem_take hu))]
   rfl
 · rw [if_neg hn, if_neg (fun h => hn h.symm)]
   cases ZI name (M.take p)<;>rfl
def Agr (l:List Tm) (L:List En):Prop:=∀ name,ZI name L=if (Zx name l.reverse).2.2=true then some ⟨name,(Zx name l.reverse).1.cl,((Zx name l.reverse).2.1:Int)⟩ else none
theorem Znc:Agr [] []:=fun name=>by simp [ZI,Zx]
theorem Zao (name:Bs) (l:List Tm) (t:Tm):Zx name (l++ [t]).reverse=if (Zf t).2=0∧(Zf t).1.sub=name then ((Zf t).1.key,l.length,decide ((Zf t).1.till≠0)) else Zx name l.reverse:=by
 rw [List.reverse_append,List.reverse_singleton,List.singleton_append]
 simp only [Zx,List.length_reverse]
theorem Znk (h:Agr l L) (x:Cred):eqK L x=((Zx x.sub l.reverse).2.2&&decide ((Zx x.sub l.reverse).1.cmp x.key=0)):=by
 unfold eqK
 rw [h x.sub]
 cases (Zx x.sub l.reverse).2.2 with
 |false=>simp
 | true =>
   simp only [if_true,Option.isSome_some,Bool.true_and,Option.getD_some]
   rw [decide_eq_decide,Z0,Z0,Zbh]
theorem Zk4 (h:Agr l L) (key t:Tm):(Za3 l t key=false∧X4 key l.length t L=none)∨(Za3 l t key=true∧∃ L',X4 key l.length t L=some L'∧Agr (l++ [t]) L'):=by
 unfold X4 Za3
 rw [Znk h]
 by_cases h1:(Zf t).2=0
 · by_cases h2 : (Zf t).1.till ≠ 9999 ∧ (Zf t).1.till ≠ 0
   · left
     refine ⟨?_,by rw [if_pos (.inr h2)]⟩
     simp [ZlO,h1,h2]
   · have hn : ¬ ((Zf t).2 ≠ 0 ∨ ((Zf t).1.till ≠ 9999 ∧ (Zf t).1.till ≠ 0)) := fun e => e.elim (fun e => e h1) h2
     have hb4:(decide ((Zf t).1.till≠0)&&decide ((Zf t).1.till≠9999))=false:=by
      rw [Bool.eq_false_iff]
      intro e
      simp only [Bool.and_eq_true,decide_eq_true_eq] at e
      exact h2 ⟨e.2,e.1⟩
     rw [if_neg hn,hb4]
     generalize hI:(Zj (Zf t).1.sub (Zf t).1.key l.length (Zf t).1.till).issue key=I
     by_cases h3:I.2=0
     · by_cases h4 : t.cmp I.1 = 0
       · rw [if_neg (fun e => e.elim (fun e => e h3) (fun e => e h4))]
         generalize hQ:((Zx (Zf t).1.sub l.reverse).2.2&&decide ((Zx (Zf t).1.sub l.reverse).1.cmp (Zf t).1.key=0))=Q
         have hfit:ZlO (decide ((Zf t).2≠0)) (decide (I.2≠0)) (decide (t.cmp I.1=0)) false (Zx (Zf t).1.sub l.reverse).2.2 (decide ((Zx (Zf t).1.sub l.reverse).1.cmp (Zf t).1.key=0)) (decide ((Zf t).1.till=0))=(Q==decide ((Zf t).1.till=0)):=by
          rw [← hQ]
          simp [ZlO,h1,h3,h4]
         rw [hfit]
         by_cases h5:Q=decide ((Zf t).1.till=0)
         · right
           refine ⟨by rw [h5];simp,?_⟩
           rw [if_neg (not_not_intro h5)]
           by_cases h6:(Zf t).1.till=0
           · rw [if_pos h6]
             refine ⟨_,rfl,fun name=>?_⟩
             have ls:=Zao name l t
             rw [Wd,h name]
             by_cases hs:(Zf t).1.sub=name
             · rw [if_pos ⟨h1, hs⟩] at ls
               rw [if_pos hs.symm,ls,h6]
               simp
             · rw [if_neg (fun e => hs e.2)] at ls
               rw [if_neg (fun e=>hs e.symm),ls]
           · rw [if_neg h6]
             refine ⟨_,rfl,fun name=>?_⟩
             have ls:=Zao name l t
             have fi:=ZcB (name:=name) (M:=L.filter (Yd (Zf t).1.sub)) (p:=Wy (Zf t).1.sub (L.filter (Yd (Zf t).1.sub))) (e:=⟨(Zf t).1.sub,(Zf t).1.key.cl,(l.length:Int)⟩) ZeT
             unfold UN
             rw [fi,Wd,h name]
             by_cases hs:(Zf t).1.sub=name
             · rw [if_pos ⟨h1, hs⟩] at ls
               rw [if_pos hs.symm,ls,hs]
               simp [h6]
             · rw [if_neg (fun e => hs e.2)] at ls
               rw [if_neg (fun e=>hs e.symm),if_neg (fun e=>hs e.symm),ls]
         · left
           refine ⟨?_,by rw [if_pos h5]⟩
           cases Q<;>cases hd:decide ((Zf t).1.till=0)<;>simp_all
       · left
         refine ⟨?_,by rw [if_pos (.inr h4)]⟩
         simp [ZlO,h4]
     · left
       refine ⟨?_,by rw [if_pos (.inl h3)]⟩
       simp [ZlO,h3]
 · left
   refine ⟨?_,by rw [if_pos (.inl h1)]⟩
   simp [ZlO,h1]
theorem Zhq (key:Tm):∀ (r l:List Tm) {L:List En},Agr l L→(ZhD (l++r) key l.length r.length=false∧WU key r l.length L=none)∨(ZhD (l++r) key l.length r.length=true∧∃ L',WU key r l.length L=some L'∧Agr (l++r) L')
 | [],l,L,h=> .inr ⟨rfl,L,rfl,by rw [List.append_nil];exact h⟩
 | t :: r, l, L, h => by
   have e1:(l++t::r)[l.length]? = some t:=by simp
   have e2:(l++t::r).take l.length=l:=by simp
   have e3:l++t::r=(l++ [t])++r:=by simp
   have e4:(l++ [t]).length=l.length+1:=by simp
   simp only [ZhD,List.length_cons,e1,e2,WU]
   rcases Zk4 h key t with ⟨a,b⟩|⟨a,L',b,c⟩
   · left
     rw [a,b]
     exact ⟨rfl,rfl⟩
   · rw [a, b, Bool.true_and]
     have ih:=Zhq key r (l++ [t]) c
     rw [e4, ← e3] at ih
     exact ih
theorem WH {name:Bs}:∀ {l:List Tm},(Zx name l).2.2=true→∃ t,l.reverse[(Zx name l).2.1]? = some t∧(Zf t).1.sub=name
 | [],h=>by simp [Zx] at h
 | t :: r, h => by
   simp only [Zx] at h ⊢
   by_cases hc:(Zf t).2=0∧(Zf t).1.sub=name
   · rw [if_pos hc]
     refine ⟨t,?_,hc.2⟩
     rw [List.reverse_cons,List.getElem?_append_right (by simp)]
     simp
   · rw [if_neg hc] at h ⊢
     obtain ⟨u,h1,h2⟩:=WH h
     refine ⟨u,?_,h2⟩
     rw [List.reverse_cons,List.getElem?_append_left (ZN h1)]
     exact h1
def KF (l:List Tm) (i:Nat) (M:List En):Prop:=∀ name,ZI name M=if (Zx name l.reverse).2.2=true∧(Zx name l.reverse).2.1<i then some ⟨name,(Zx name l.reverse).1,((Zx name l.reverse).2.1:Int)⟩ else none
theorem Zk7 (h:e∈M):(ZI e.name M).isSome=true:=by
 unfold ZI
 rw [List.find?_isSome]
 exact ⟨e,h,by simp⟩
theorem XF (l:List Tm):∀ i,i≤l.length→KF l i (YF l i)∧Vo (YF l i)
 |0,_=>⟨fun name=>by rw [if_neg (by omega)];rfl,fun i j a b _ h=>absurd h (by simp [YF])⟩
 | i + 1, h => by
   obtain ⟨ih,io⟩:=XF l i (by omega)
   obtain ⟨t,ht⟩:∃ t,l[i]? = some t:=⟨l[i],by simp⟩
   simp only [YF,ht,U9]
   generalize hx:(Zf t).1.sub=x
   by_cases hc:(Zx x l.reverse).2.2=false∨(Zx x l.reverse).2.1≠i
   · rw [if_pos hc]
     refine ⟨fun name=>?_,io⟩
     rw [ih name]
     by_cases hn:(Zx name l.reverse).2.2=true∧(Zx name l.reverse).2.1<i
     · rw [if_pos hn,if_pos ⟨hn.1,by omega⟩]
     · rw [if_neg hn, if_neg]
       rintro ⟨q1,q2⟩
       have q3:(Zx name l.reverse).2.1=i:=by
        rcases Nat.lt_or_ge (Zx name l.reverse).2.1 i with q|q
        · exact absurd ⟨q1,q⟩ hn
        · omega
       obtain ⟨u,u1,u2⟩:=WH q1
       rw [List.reverse_reverse,q3,ht] at u1
       cases u1
       rw [hx] at u2
       subst u2
       rcases hc with hc|hc
       · rw [q1] at hc;cases hc
       · exact hc q3
   · rw [if_neg hc]
     have c1:(Zx x l.reverse).2.2=true:=by
      cases e:(Zx x l.reverse).2.2 with
      | true=>rfl
      | false=>exact absurd (.inl e) hc
     have c2:(Zx x l.reverse).2.1=i:=Classical.not_not.1 fun e=>hc (.inr e)
     have hne:∀ u,u∈YF l i→u.name≠x:=fun u hu e=>by
      have h1:=Zk7 hu
      rw [e,ih x,if_neg (by rw [c2];omega)] at h1
      cases h1
     have hins:Zm9 (YF l i) (Wy x (YF l i)) ⟨x,(Zx x l.reverse).1,((Zx x l.reverse).2.1:Int)⟩=Za6 (YF l i) (Wy x (YF l i)) ⟨x,(Zx x l.reverse).1,((Zx x l.reverse).2.1:Int)⟩:=rfl
     rw [hins]
     refine ⟨fun name=>?_,Zh7 (e:=⟨x,(Zx x l.reverse).1,((Zx x l.reverse).2.1:Int)⟩) io hne⟩
     have fi:=ZcB (name:=name) (M:=YF l i) (p:=Wy x (YF l i)) (e:=⟨x,(Zx x l.reverse).1,((Zx x l.reverse).2.1:Int)⟩) hne
     rw [fi,ih name]
     by_cases hn:name=x
     · subst hn
       rw [if_pos rfl,if_pos ⟨c1,by omega⟩]
     · rw [if_neg hn]
       by_cases hq:(Zx name l.reverse).2.2=true∧(Zx name l.reverse).2.1<i
       · rw [if_pos hq,if_pos ⟨hq.1,by omega⟩]
       · rw [if_neg hq, if_neg]
         rintro ⟨q1,q2⟩
         have q3:(Zx name l.reverse).2.1=i:=by
          rcases Nat.lt_or_ge (Zx name l.reverse).2.1 i with q|q
          · exact absurd ⟨q1,q⟩ hq
          · omega
         obtain ⟨u,u1,u2⟩:=WH q1
         rw [List.reverse_reverse,q3,ht] at u1
         cases u1
         exact hn (u2.symm.trans hx)
theorem ZfT (h:Vo (a::r)):∀ u,u∈r→Xw a.name u.name<0:=(List.pairwise_cons.1 (ZaP.1 h)).1
theorem Zfr (h:Vo (a::r)):Vo r:=ZaP.2 (List.pairwise_cons.1 (ZaP.1 h)).2
theorem ZdK (a:Bs):Xw a a=0:=by
 have:=cmpB_on.anti a a trivial trivial
 omega
theorem ZcX (h:Vo (a::r)) (name:Bs):ZI name r=if a.name=name then none else ZI name (a::r):=by
 rw [Yo]
 by_cases hn:a.name=name
 · rw [if_pos hn]
   refine Zc4 fun u hu e=>?_
   have:=ZfT h u hu
   rw [e, ← hn,ZdK] at this
   omega
 · rw [if_neg hn,if_neg hn]
def enK (e:En):Bs×Tm×Int:=(e.name,e.key.cl,e.idx)
theorem Zh5:∀ {L M:List En} (K:List En),L.map enK=M.map enK→enB L K=enB M K
 | [],[],_,_=>rfl
 | [],_::_,_,h=>by simp at h
 |_::_,[],_,h=>by simp at h
 |a::r,b::s,[],_=>rfl
 | a :: r, b :: s, c :: t, h => by
   simp only [List.map_cons,List.cons.injEq,enK,Prod.mk.injEq] at h
   obtain ⟨⟨h1,h2,h3⟩,h4⟩:=h
   have hc:decide (a.key.cmp c.key=0)=decide (b.key.cmp c.key=0):=by rw [decide_eq_decide,Z0,Z0,h2]
   simp only [enB,h1,h3,hc,Zh5 t h4]
theorem QM:∀ {L M:List En},Vo L→Vo M→(∀ name,(ZI name L).map enK=(ZI name M).map enK)→L.map enK=M.map enK
 | [],[],_,_,_=>rfl
 | [], b :: s, _, _, h => by
   have:=h b.name
   rw [Yo,if_pos rfl] at this
   simp [ZI] at this
 | a :: r, [], _, _, h => by
   have:=h a.name
   rw [Yo,if_pos rfl] at this
   simp [ZI] at this
 | a :: r, b :: s, hL, hM, h => by
   have key:∀ {a b:En} {r s:List En},Vo (b::s)→(∀ name,(ZI name (a::r)).map enK=(ZI name (b::s)).map enK)→Xw b.name a.name≤0:=fun {a b r s} hM h=>by
    have h1:=h a.name
    rw [Yo,if_pos rfl,Yo] at h1
    by_cases hn:b.name=a.name
    · rw [hn,ZdK];omega
    · rw [if_neg hn] at h1
      cases hf:ZI a.name s with
      | none=>rw [hf] at h1;simp at h1
      | some u =>
        have:=ZfT hM u (Q0 hf)
        rw [Zif hf] at this
        omega
   have k1:=key hM h
   have k2:=key hL (fun n=>(h n).symm)
   have hab:Xw a.name b.name=0:=by
    have:=cmpB_on.anti a.name b.name trivial trivial
    omega
   have hnm:a.name=b.name:=by
    unfold Xw at hab
    split at hab
    · cases hab
    · split at hab
      · assumption
      · cases hab
   have h0:=h a.name
   rw [Yo,if_pos rfl,Yo,if_pos hnm.symm] at h0
   simp only [Option.map_some,Option.some.injEq] at h0
   have ht:r.map enK=s.map enK:=QM (Zfr hL) (Zfr hM) fun name=>by
    rw [ZcX hL,ZcX hM,hnm]
    by_cases hn:b.name=name
    · rw [if_pos hn,if_pos hn]
    · rw [if_neg hn,if_neg hn,h name]
   rw [List.map_cons,List.map_cons,h0,ht]
theorem ZbV (h:Tm) (n:Int) (key:Tm):(Yw Tm.cl h.cl n key).2=(Yw id h n key).2:=by
 have e1:(Wm h.cl n key).cl=(Wm h n key).cl:=by simp only [Wm,Qa,Qi,Tm.cl,clL,Zbh]
 have v0:=Q7 h
 have v:=YL ((Zfg h.cl n key).trans e1)
 unfold Yw
 simp only [id,v,v0]
 split; · rfl
 split; · rfl
 split; · rfl
 split; · rfl
 rfl
theorem ZiN {key t:Tm} {i:Nat} {L':List En} (hO:Vo L) (e:X4 key i t L=some L'):Vo L':=by
 unfold X4 at e
 split at e; · cases e
 split at e; · cases e
 split at e; · cases e
 split at e
 · cases e;exact Wa hO _
 · cases e;exact ZeF hO _ _ _
theorem Zc8 {key:Tm}:∀ {log:List Tm} {i:Nat} {L L':List En},Vo L→WU key log i L=some L'→Vo L'
 | [], i, L, L', hO, e => by
   simp only [WU,Option.some.injEq] at e
   subst e
   exact hO
 | t :: r, i, L, L', hO, e => by
   simp only [WU] at e
   cases hs:X4 key i t L with
   | none=>rw [hs] at e;cases e
   | some L1=>rw [hs] at e;exact Zc8 (ZiN hO hs) e
theorem Zky:Vo []:=fun i j a b _ h=>absurd h (by simp)
theorem XV (s:Sv):svP s=svV s:=by
 unfold svP svV
 by_cases h1:Y6 s.name=false
 · rw [if_pos h1,if_pos h1]
 · rw [if_neg h1, if_neg h1]
   by_cases h2:s.key.cmp (skT s.name)≠0
   · rw [if_pos h2,if_pos h2]
   · rw [if_neg h2, if_neg h2]
     have hs:=(ZhG (ZS s.log).1 s.log.length s.key).1
     have run:=Zhq s.key s.log [] Znc
     simp only [List.nil_append,List.length_nil] at run
     have hK:∀ L,WU s.key s.log 0 []=some L→Agr s.log L→Vo L→enB L s.keys=enB (YF s.log s.log.length) s.keys:=fun L _ hA hO=>by
      obtain ⟨f1,f2⟩:=XF s.log s.log.length (Nat.le_refl _)
      refine Zh5 _ (QM hO f2 fun name=>?_)
      rw [hA name,f1 name]
      by_cases hq:(Zx name s.log.reverse).2.2=true
      · obtain ⟨u, u1, -⟩ := WH hq
        have:=ZN u1
        rw [if_pos hq,if_pos ⟨hq,by simpa using this⟩]
        simp only [Option.map_some,enK,Zbh]
      · rw [if_neg hq,if_neg (fun e=>hq e.1)]
     have hH:(Wv s.log s.key).2.2=(decide ((ZS s.log).2=0)&&decide ((Yw id (ZS s.log).1 s.log.length s.key).2=0)):=by
      unfold Wv
      by_cases e:(ZS s.log).2=0<;>simp [e]
     rw [hH]
     have hlen:(ZS s.log).2=0→¬ 32<s.log.length:=fun e=>by
      have:ZbS s.log=0:=by
       unfold ZS at e
       split at e
       · rename_i q;exact absurd e q
       · rename_i q;exact Classical.not_not.1 q
      have:=QN this
      omega
     by_cases h3:(ZS s.log).2=0
     · rw [if_neg (not_not_intro h3), if_neg (hlen h3)]
       by_cases h4:(Yw id (ZS s.log).1 s.log.length s.key).2=0
       · have h4' : (Yw Tm.cl (ZS s.log).1.cl s.log.length s.key).2 = 0 := (ZbV _ _ _).trans h4
         rw [if_neg (not_not_intro h4'),h3,h4]
         rcases run with ⟨a,b⟩|⟨a,L',b,c⟩
         · rw [a, ZkC, b]
           simp
         · have hk := hK L' b c (Zc8 Zky b)
           rw [a,ZkC,b]
           simp [← hk]
       · have h4' : ¬ (Yw Tm.cl (ZS s.log).1.cl s.log.length s.key).2 = 0 := fun e => h4 ((ZbV _ _ _).symm.trans e)
         rw [if_pos h4',if_pos (c:=(_&&_)=false) (by simp [h4])]
         split<;>rfl
     · rw [if_pos h3]
       split
       · rfl
       · rw [if_pos (c := (_ && _) = false) (by simp [h3])]
         split<;>rfl
open Go.Proofs
def X3 (name:Bs):Sv:=⟨name,skT name,true,[],true,[]⟩
def svZero:Sv:=⟨[],.zero,true,[],true,[]⟩
theorem Zt:svZero.cells= [.str [],.int .i64 0,.str [],.int .i64 0,.nils,.nils,.nils]:=by
 simp only [svZero,Sv.cells,Zn,Za,enC,List.map_nil,Zq]
 rfl
theorem Zjd (m:Nat) (H:Heap) (s:Sv):frz2 m H (.agg s.cells)=some (.agg s.cells):=by
 obtain ⟨name,⟨k,nm,z,b,kids⟩,lb,log,kb,keys⟩:=s
 have h1:∀ cs,frz3 m H (.agg cs)=frz2 m H (.agg cs):=fun _=>rfl
 rw [← h1,Wq]
 simp only [Sv.cells,Tm.cells,List.cons_append,List.nil_append,Qf,UI]
 rfl
theorem Yp (m:Nat) (H:Heap) (s:Sv) (e:Int):frz3 m H (.tup [.agg s.cells,.int .i64 e])=some (.tup [.agg s.cells,.int .i64 e]):=by
 show (match Xk m H [.agg s.cells,.int .i64 e] with|some vs'=>some (PV.tup vs')|none=>none)=_
 simp only [Xk,Zjd]
 rfl
theorem VT (m:Nat) (H:Heap) (c:Rd) (e:Int):frz3 m H (.tup [.agg c.cells,.int .i64 e])=some (.tup [.agg c.cells,.int .i64 e]):=by
 show (match Xk m H [.agg c.cells,.int .i64 e] with|some vs'=>some (PV.tup vs')|none=>none)=_
 simp only [Xk,Zje]
 rfl
theorem Zie (name:Bs) (k:Tm):XZ E0 27 [(0,.str name),(1,.agg k.cells)]=some (.agg (Sv.mk name k true [] true []).cells):=by
 obtain ⟨kk,nm,z,b,kids⟩:=k
 simp only [Sv.cells,Tm.cells,Za,enC,List.map_nil,Zq]
 rfl
theorem c12 (name:Bs) (hn:name.length≤1000):∀ H,CallOk E0 Tryz.prog 12 [.str name] H (.tup [.agg (if Y6 name=true then X3 name else svZero).cells,.int .i64 (if Y6 name=true then 0 else 2)]) H:=by
 have c1:=c37 name (by omega)
 have c2:=c38 name
 have hb:=Zie name (skT name)
 unfold X3
 generalize Y6 name=B at c1 ⊢
 cases B with
 | false =>
   have hfr:=Yp 0 hNil svZero 2
   show ∀ H,CallOk E0 Tryz.prog _ _ H (.tup [.agg svZero.cells,.int .i64 2]) H
   rw [Zt] at hfr ⊢
   refine Jw tOk fe12.ok hfr ?_
   repeat' first|refine Jc (c1 _) ?_|refine Jt ?_|refine Jo ?_|fail
   all_goals rfl
 | true =>
   have hfr:=Yp 0 hNil ⟨name,skT name,true,[],true,[]⟩ 0
   have hft:=fun m H=>Yp m H ⟨name,skT name,true,[],true,[]⟩ 0
   show ∀ H,CallOk E0 Tryz.prog _ _ H (.tup [.agg (Sv.mk name (skT name) true [] true []).cells,.int .i64 0]) H
   generalize skT name=K at c2 hb hfr hft ⊢
   obtain ⟨kk,nm,z,b,kids⟩:=K
   simp only [Sv.cells,Tm.cells,List.cons_append,List.nil_append] at c2 hb hfr hft ⊢
   refine Jw tOk fe12.ok hfr ?_
   repeat' first|refine Jc (c1 _) ?_|refine Jc (c2 _) ?_|(apply qBd;rfl;rfl;rfl;assumption;exact IsV.aggN)|refine Jt ?_|refine Jo ?_|fail
   all_goals exact hft _ _
def pkT (k:Tm):Tm:= .mk 3 [112,107] 0 true [k]
def Zkg (s:Sv):Rd×Int:=if svV s≠0 then (.zero,svV s) else (⟨pkT s.key,0,.zero,.zero⟩,0)
theorem ZfM (x:Tm):XZ E0 31 [(0,.agg x.cells)]=some (.agg (Rd.mk x 0 .zero .zero).cells):=by
 obtain ⟨k1,nm1,s1,b1,kids1⟩:=x
 simp only [Rd.cells,Zn,Tm.cells]
 rfl
theorem c10 (h:SvOk s):∀ H,CallOk E0 Tryz.prog 10 [.agg s.cells] H (.tup [.agg (Zkg s).1.cells,.int .i64 (Zkg s).2]) H:=by
 have c1:=c14 h
 have c2:=Zkt [112,107] s.key
 have e:Tm.mk 3 [112,107] 0 true [s.key]=pkT s.key:=rfl
 have hbd:=ZfM (pkT s.key)
 have be:=Ye (svV s)
 have hfz:=Zcl s
 rw [e] at c2
 unfold Zkg
 generalize svV s=V at c1 be ⊢
 clear h
 obtain ⟨name,key,lb,log,kb,keys⟩:=s
 simp only [Sv.cells] at c1 c2 hbd hfz ⊢
 by_cases hv:V=0
 · rw [decide_eq_false (not_not_intro hv)] at be
   rw [if_neg (not_not_intro hv)]
   have hfr:=VT 0 hNil ⟨pkT key,0,.zero,.zero⟩ 0
   have hft:=fun m H=>VT m H ⟨pkT key,0,.zero,.zero⟩ 0
   show ∀ H,CallOk E0 Tryz.prog _ _ H (.tup [.agg (Rd.mk (pkT key) 0 .zero .zero).cells,.int .i64 0]) H
   generalize pkT key=K at c2 hbd hfr hft ⊢
   obtain ⟨k1,nm1,s1,b1,kids1⟩:=K
   obtain ⟨k2,nm2,s2,b2,kids2⟩:=key
   simp only [Rd.cells,Zn,Tm.cells,List.cons_append,List.nil_append] at c1 c2 hbd hfz hfr hft ⊢
   refine Jw tOk fe10.ok hfr ?_ hfz
   repeat' first|refine Jc (c1 _) ?_|refine Jc (c2 _) ?_|refine Js ?_|refine Ji ?_|(apply qBd;rfl;rfl;rfl;assumption;exact IsV.aggN)|refine Jo ?_|fail
   all_goals exact hft _ _
 · rw [decide_eq_true hv] at be
   rw [if_pos hv]
   have hfr:=VT 0 hNil .zero V
   show ∀ H,CallOk E0 Tryz.prog _ _ H (.tup [.agg Rd.zero.cells,.int .i64 V]) H
   rw [ZaY] at hfr ⊢
   obtain ⟨k2,nm2,s2,b2,kids2⟩:=key
   simp only [Tm.cells,List.cons_append,List.nil_append] at c1 hfz ⊢
   refine Jw tOk fe10.ok hfr ?_ hfz
   repeat' first|refine Jc (c1 _) ?_|refine Ji ?_|refine Jo ?_|fail
   all_goals rfl
open Go.Proofs
theorem c11 (name:Bs) (hn:name.length≤1000):∀ H,CallOk E0 Tryz.prog 11 [.str name] H (.tup [.agg (if Y6 name=true then X3 name else svZero).cells,.int .i64 (if Y6 name=true then 0 else 2)]) H:=by
 have c1:=c35 name (by omega)
 have c2:=c36 name
 have hb:=Zie name (skT name)
 unfold X3
 generalize Y6 name=B at c1 ⊢
 cases B with
 | false =>
   have hfr:=Yp 0 hNil svZero 2
   have hft:=fun m H=>Yp m H svZero 2
   show ∀ H,CallOk E0 Tryz.prog _ _ H (.tup [.agg svZero.cells,.int .i64 2]) H
   rw [Zt] at hfr hft ⊢
   refine Jw tOk fe11.ok hfr ?_
   repeat' first|refine Jc (c1 _) ?_|refine Jt ?_|refine Jo ?_|fail
   all_goals first|rfl|exact hft _ _
 | true =>
   have hfr:=Yp 0 hNil ⟨name,skT name,true,[],true,[]⟩ 0
   have hft:=fun m H=>Yp m H ⟨name,skT name,true,[],true,[]⟩ 0
   show ∀ H,CallOk E0 Tryz.prog _ _ H (.tup [.agg (Sv.mk name (skT name) true [] true []).cells,.int .i64 0]) H
   generalize skT name=K at c2 hb hfr hft ⊢
   obtain ⟨kk,nm,z,b,kids⟩:=K
   simp only [Sv.cells,Tm.cells,List.cons_append,List.nil_append] at c2 hb hfr hft ⊢
   refine Jw tOk fe11.ok hfr ?_
   repeat' first|refine Jc (c1 _) ?_|refine Jc (c2 _) ?_|(apply qBd;rfl;rfl;rfl;assumption;exact IsV.aggN)|refine Jt ?_|refine Jo ?_|fail
   all_goals exact hft _ _
def ZiF (s:Sv):Rd×Int:=if svP s≠0 then (.zero,svP s) else (⟨pkT s.key.cl,0,.zero,.zero⟩,0)
theorem ZdQ (t:Tm):(pkT t).cells= [.int .i64 3,.str [112,107],.int .i64 0,.sl .none 4 [t.cells]]:=by
 simp only [pkT,Tm.cells,Za,Zw]
theorem c9 (h:SvOk s):∀ H,CallOk E0 Tryz.prog 9 [.agg s.cells] H (.tup [.agg (ZiF s).1.cells,.int .i64 (ZiF s).2]) H:=by
 have c1:=c13 h
 have c2:=c33 h.k (by have:=h.ks;omega)
 have be:=Ye (svP s)
 have hfz:=Zcl s
 have hbd:=ZfM (pkT s.key.cl)
 unfold ZiF
 generalize svP s=V at c1 be ⊢
 clear h
 obtain ⟨name,key,lb,log,kb,keys⟩:=s
 simp only [Sv.cells] at c1 c2 hbd hfz ⊢
 by_cases hv:V=0
 · rw [decide_eq_false (not_not_intro hv)] at be
   rw [if_neg (not_not_intro hv)]
   have hfr:=VT 0 hNil ⟨pkT key.cl,0,.zero,.zero⟩ 0
   have hft:=fun m H=>VT m H ⟨pkT key.cl,0,.zero,.zero⟩ 0
   show ∀ H,CallOk E0 Tryz.prog _ _ H (.tup [.agg (Rd.mk (pkT key.cl) 0 .zero .zero).cells,.int .i64 0]) H
   rw [show (Rd.mk (pkT key.cl) 0 .zero .zero).cells=(pkT key.cl).cells++(Rd.mk .zero 0 .zero .zero).cells.drop 4 from by simp only [Rd.cells,Zn,ZdQ];rfl] at hbd hfr hft ⊢
   rw [ZdQ] at hbd hfr hft ⊢
   generalize key.cl=KC at c2 hbd hfr hft ⊢
   obtain ⟨k1,nm1,s1,b1,kids1⟩:=KC
   obtain ⟨k2,nm2,s2,b2,kids2⟩:=key
   simp only [Rd.cells,Zn,Tm.cells,List.cons_append,List.nil_append,List.drop_succ_cons,List.drop_zero] at c1 c2 hbd hfz hfr hft ⊢
   refine Jw tOk fe9.ok hfr ?_ hfz
   repeat' first|refine Jc (c1 _) ?_|refine Jc (c2 _) ?_|refine Js ?_|refine Ji ?_|refine Jo ?_|fail
   all_goals first|rfl|exact hft 0 hNil
 · rw [decide_eq_true hv] at be
   rw [if_pos hv]
   have hfr:=VT 0 hNil .zero V
   show ∀ H,CallOk E0 Tryz.prog _ _ H (.tup [.agg Rd.zero.cells,.int .i64 V]) H
   rw [ZaY] at hfr ⊢
   obtain ⟨k2,nm2,s2,b2,kids2⟩:=key
   simp only [Tm.cells,List.cons_append,List.nil_append] at c1 hfz ⊢
   refine Jw tOk fe9.ok hfr ?_ hfz
   repeat' first|refine Jc (c1 _) ?_|refine Ji ?_|refine Jo ?_|fail
   all_goals rfl
end Go.Vm.Seat
