/-
  Calls that leave what was there as it was: known in every world. Credentials as terms: how large they are. What is read out of a term is a part of it. What is read: nothing, or a valid credential whose key lies in the term. Facts that are found whatever the arguments' slices are like behind their ends; an environment with other marks. A call that writes the third box of three, as a store in a drawn region; the heads of a log (ledger). Readers and answers of a key service: what is accepted, by the program and by the document's answer. A call in a drawn region whose result lies in rooms of its o
-/
import Derived.Test.YtjokjgoppbmaiaaGreatDoorFh
import Derived.Lib.ItoaMem
import Derived.Test.YtjokjgoppbmaiaaGreatDoorFe
import Derived.Test.YtjokjgoppbmaiaaGreatDoorFg
import Derived.LaidByTextLater
namespace Go.Vm
open Go.RowKit
section
variable {E:Env} {P:Program}
theorem callOk_below {f : FuncId} {fn : Func} {c : Code} (hf : FnOk P f fn c) (hmono : E.mono = false) {args : List PV} {r : PV}
  (h:∀ (g:Gh) (w:World) (vals:Array Value),(∀ b o v,g.S b o=some v→w.cell? ⟨b,o,none⟩=some v)→GOk E g→VL g args vals.toList→∃ v,V0 g.S r v∧Calls P f vals w fun e w'=>e= .returned v∧Below w.heap.size w w') :
  ∀ H,CallOk E P f args H r H:=by
 intro H g w vals hi hg hv
 obtain ⟨v,hv0,hc⟩:=h g w vals hi.st hg hv
 rw [callFunc_enter hf]
 refine Calls.mono hc fun e w' ⟨h1,hb⟩=> ?_
 obtain ⟨j1,j2⟩:=inv_grown hi (fun k hk=>hb.block k hk) hb.size ⟨hb.os,hb.output,hb.tape,fun hm=>absurd (hg.2.1 hm) (by rw [hmono];simp)⟩
 exact ⟨v,h1,g,.pure _ _ hv0,j1,j2⟩
theorem tab_of {g:Gh} {k:Nat} {cs:List PV} (hg:GOk E g) (hG:E.G k=some cs) {w:World} (hst:∀ b o v,g.S b o=some v→w.cell? ⟨b,o,none⟩=some v) {kk:IntKind} {j:Nat} {n:Int} (h:cs[j]? = some (.int kk n)):w.cell? ⟨k,j,none⟩=some (.int kk n):=by
 obtain ⟨b,o,vals,h1,h2,h3⟩:=(V.pure (g:=g) _ _ (hg.1 k cs hG)).fptr_inv
 simp only [Value.pointer.injEq,Option.some.injEq,Addr.mk.injEq,and_true] at h3
 obtain ⟨rfl,h3⟩:=h3
 obtain rfl:o=0:=by omega
 obtain ⟨hj,hx⟩:=List.getElem?_eq_some_iff.1 h
 have e:=h2 j hj
 rw [hx] at e
 have h4:=h1 j hj
 cases hv:vals j with
 | int k' n' =>
   rw [hv] at e h4
   cases e
   simpa using hst _ _ _ h4
 | _=>rw [hv] at e;cases e
end
open Go.Sort in
theorem below_grow (w:World) (k:Nat) (os:Array Obj):Below w.heap.size w (grow (w.drewN k) os):=by
 refine ⟨rfl,rfl,rfl,by simp [grow,World.drewN],fun j hj=> ?_⟩
 simp only [grow,World.drewN]
 rw [Array.getElem?_append_left hj]
end Go.Vm
namespace Go.Vm
theorem sizeL_append:∀ a b:List Tm,sizeL (a ++ b)=sizeL a+sizeL b
 | [],b=>by simp [sizeL]
 | t :: a,b=>by simp only [List.cons_append,sizeL,sizeL_append a b];omega
theorem tup_size:∀ l:List Tm,l≠ []→(tupT l).size+1=sizeL l+l.length
 | [],h=>absurd rfl h
 | [a],_=>by simp [tupT,sizeL]
 | a :: b :: r, _ => by
   have:=tup_size (b :: r) (by simp)
   simp only [tupT,pairT,Tm.size,sizeL,List.length_cons] at this ⊢
   omega
theorem tup_ok:∀ {l:List Tm},l≠ []→(∀ t,t∈l→t.Ok)→(tupT l).Ok
 | [],h,_=>absurd rfl h
 | [a],_,h=>h a (by simp)
 | a :: b :: r, _, h => by
   have h1:=tup_ok (l:=b :: r) (by simp) (fun t ht=>h t (by simp [List.mem_cons.1 ht]))
   refine .mk (by decide) (by decide) (by simp [maxLen]) (by simp [maxLen]) fun t ht=> ?_
   rcases List.mem_cons.1 ht with rfl | ht
   · exact h _ (by simp)
   · rw [List.mem_singleton.1 ht];exact h1
theorem atom_ok {nm:Bs} {s:Int} (h:nm.length≤1000000) (h0:0≤s) (h1:s≤5):(atomT nm s).Ok:=
 .mk (by decide) (by
  rcases (show s=0∨s=1∨s=2∨s=3∨s=4∨s=5 by omega) with rfl | rfl | rfl | rfl | rfl | rfl <;> decide) (by simp only [maxLen];omega) (by simp [maxLen]) fun t ht=>absurd ht (by simp)
theorem end_ok:endT.Ok:=atom_ok (by decide) (by decide) (by decide)
theorem atoms_size (s:Int):∀ l:List Bs,sizeL (l.map fun x=>atomT x s)=l.length
 | []=>rfl
 | x :: r => by
   have:=atoms_size s r
   have e:(atomT x s).size=1:=rfl
   simp only [List.map_cons,sizeL,e,List.length_cons]
   omega
theorem dot_parts {s:Bs} (h:dottedB s=true):(splitD s).length≤4∧∀ x,x∈splitD s→x.length≤8:=by
 simp only [dottedB,Bool.and_eq_true,decide_eq_true_eq] at h
 refine ⟨h.1,fun x hx=> ?_⟩
 have:=List.all_eq_true.1 h.2 x hx
 cases x with
 | nil=>simp
 | cons c r =>
   simp only [labelB,Bool.and_eq_true,decide_eq_true_eq] at this
   simp only [List.length_cons]
   omega
theorem name_size {s:Bs} (h:dottedB s=true):(nameT s).size≤9:=by
 have h1:=tup_size ((splitD s).map (fun x=>atomT x 4) ++ [endT]) (by simp)
 have h2:=(dot_parts h).1
 have h3:(nameT s).size=(tupT ((splitD s).map (fun x=>atomT x 4) ++ [endT])).size:=rfl
 have e:endT.size=1:=rfl
 simp only [sizeL_append,atoms_size,List.length_append,List.length_map,List.length_cons,List.length_nil,sizeL,e] at h1
 omega
theorem name_ok {s:Bs} (h:dottedB s=true):(nameT s).Ok:=by
 refine tup_ok (by simp) fun t ht=> ?_
 rcases List.mem_append.1 ht with ht | ht
 · obtain ⟨x, hx, rfl⟩ := List.mem_map.1 ht
   exact atom_ok (by have:=(dot_parts h).2 x hx;omega) (by decide) (by decide)
 · rw [List.mem_singleton.1 ht];exact end_ok
theorem names_sum:∀ {l:List Bs},(∀ s,s∈l→dottedB s=true)→sizeL (l.map nameT)≤9 * l.length
 | [],_=>by simp [sizeL]
 | s :: r, h => by
   have h1:=name_size (h s (by simp))
   have h2:=names_sum (l:=r) (fun x hx=>h x (by simp [hx]))
   simp only [List.map_cons,sizeL,List.length_cons]
   omega
theorem names_size {l:List Bs} (h:∀ s,s∈l→dottedB s=true) (hl:l.length≤4):(namesT l).size≤41:=by
 have h1:=tup_size (l.map nameT ++ [endT]) (by simp)
 have h2:=names_sum h
 have h3:(namesT l).size=(tupT (l.map nameT ++ [endT])).size:=rfl
 have e:endT.size=1:=rfl
 simp only [sizeL_append,List.length_append,List.length_map,List.length_cons,List.length_nil,sizeL,e] at h1
 omega
theorem names_ok {l:List Bs} (h:∀ s,s∈l→dottedB s=true):(namesT l).Ok:=by
 refine tup_ok (by simp) fun t ht=> ?_
 rcases List.mem_append.1 ht with ht | ht
 · obtain ⟨x, hx, rfl⟩ := List.mem_map.1 ht
   exact name_ok (h x hx)
 · rw [List.mem_singleton.1 ht];exact end_ok
theorem itoa_len {n:Int} (h0:0≤n) (h1:n≤9999):(Lib.itoa n).length≤4:=by
 obtain ⟨u,rfl⟩:∃ u:Nat,n=(u:Int):=⟨n.toNat,by omega⟩
 have e:Lib.itoa (u:Int)=Lib.decDigits u:=by
  unfold Lib.itoa
  rw [if_neg (by omega)]
  rfl
 rw [e]
 rcases dec_small (u:=u) (by omega) with ⟨a,ha,hu,hd⟩ | ⟨a,b,ha,hb,hu,hd⟩ | ⟨a,b,c,ha,hb,hc,hu,hd⟩ | ⟨a,b,c,d,ha,hb,hc,hdd,hu,hd⟩ <;> rw [hd] <;> simp
theorem num_ok {n:Int} (h0:0≤n) (h1:n≤9999):(numT n).Ok:=atom_ok (by have:=itoa_len h0 h1;simp;omega) (by decide) (by decide)
structure CredOk (x:Cred):Prop where
 sub:dottedB x.sub=true
 per:∀ s,s∈x.per→dottedB s=true
 exc:∀ s,s∈x.exc→dottedB s=true
 pl:x.per.length≤4
 el:x.exc.length≤4
 n1:0≤x.ser∧x.ser≤9999
 n2:0≤x.fr∧x.fr≤9999
 n3:0≤x.till∧x.till≤9999
theorem wrongB_no {l:List Bs} (h:¬ wrongB l=true):∀ s,s∈l→dottedB s=true:=fun s hs=>by
 cases hd:dottedB s with
 | true=>rfl
 | false=>exact absurd (List.any_eq_true.2 ⟨s,hs,by simp [hd]⟩) h
theorem cred_ok {x:Cred} (h:x.valid=0):CredOk x:=by
 obtain ⟨a,b,c⟩:=valid_nums h
 unfold Cred.valid at h
 split at h; · omega
 split at h; · contradiction
 split at h; · omega
 split at h; · omega
 split at h; · omega
 rename_i h1 h2 h3 h4 h5
 exact ⟨by simpa using h1,wrongB_no fun e=>h5 (.inl e),wrongB_no fun e=>h5 (.inr e),by omega,by omega,a,b,c⟩
theorem body_size {x:Cred} (h:CredOk x):x.body.size≤x.key.size+104:=by
 have h1:=tup_size x.bodyL (by simp [Cred.bodyL])
 have h2:=name_size h.sub
 have h3:=names_size h.per h.pl
 have h4:=names_size h.exc h.el
 have h5:x.body.size=(tupT x.bodyL).size:=rfl
 simp only [Cred.bodyL,sizeL,List.length_cons,List.length_nil] at h1
 have a1:∀ nm s,(atomT nm s).size=1:=fun _ _=>rfl
 have a2:∀ n,(numT n).size=1:=fun _=>rfl
 simp only [a1,a2] at h1
 simp only [Cred.bodyL] at h5
 omega
theorem body_ok {x:Cred} (h:CredOk x) (hk:x.key.Ok):x.body.Ok:=by
 refine tup_ok (by simp [Cred.bodyL]) fun t ht=> ?_
 simp only [Cred.bodyL,List.mem_cons,List.not_mem_nil,or_false] at ht
 rcases ht with rfl | rfl | rfl | rfl | rfl | rfl | rfl | rfl | rfl
 · exact atom_ok (by decide) (by decide) (by decide)
 · exact name_ok h.sub
 · exact hk
 · exact atom_ok (by cases x.iss <;> decide) (by decide) (by decide)
 · exact names_ok h.per
 · exact names_ok h.exc
 · exact num_ok h.n1.1 h.n1.2
 · exact num_ok h.n2.1 h.n2.2
 · exact num_ok h.n3.1 h.n3.2
theorem term_size {x:Cred} {key:Tm} (h:CredOk x):(x.term key).size≤x.key.size+key.size+105:=by
 have:=body_size h
 simp only [Cred.term,Tm.size,sizeL]
 omega
theorem term_ok {x:Cred} {key:Tm} (h:CredOk x) (hk:x.key.Ok) (hk2:key.Ok):(x.term key).Ok:=by
 refine .mk (by decide) (by decide) (by simp [maxLen]) (by simp [maxLen]) fun t ht=> ?_
 rcases List.mem_cons.1 ht with rfl | ht
 · exact body_ok h hk
 · rw [List.mem_singleton.1 ht];exact hk2
end Go.Vm
namespace Go.Vm
theorem pair_isB (t:Tm):t.isB [112,97,105,114] 2=(isPair t).isSome:=by
 obtain ⟨k,nm,s,b,l⟩:=t
 simp only [Tm.isB,isPair]
 match l with
 | []=>simp
 | [x]=>simp
 | [x, y] =>
   by_cases h1:k=3
   · by_cases h2 : nm = [112, 97, 105, 114]
     · simp [h1,h2]
     · simp [h1,h2]
   · simp [h1]
 | x :: y :: z :: r=>simp
def Tm.within (x t:Tm):Prop:=x.size≤t.size∧∀ y,y∈x.all→y∈t.all
theorem within_refl (t:Tm):t.within t:=⟨Nat.le_refl _,fun _ h=>h⟩
theorem within_trans {a b c:Tm} (h:a.within b) (h':b.within c):a.within c:=⟨Nat.le_trans h.1 h'.1,fun y hy=>h'.2 y (h.2 y hy)⟩
theorem mem_all (t:Tm):t∈t.all:=by obtain ⟨k,nm,s,b,l⟩:=t;simp [Tm.all]
theorem within_kid {k:Int} {nm:Bs} {s:Int} {b:Bool} {l:List Tm} {x:Tm} (h:x∈l):x.within (.mk k nm s b l):=by
 refine ⟨by have:=size_le h;simp only [Tm.size];omega,fun y hy=> ?_⟩
 simp only [Tm.all,List.mem_cons]
 refine .inr ?_
 induction l with
 | nil=>simp at h
 | cons a r ih =>
   simp only [allL,List.mem_append]
   rcases List.mem_cons.1 h with rfl | h
   · exact .inl hy
   · exact .inr (ih h)
theorem Tm.Ok.part {x t:Tm} (ht:t.Ok) (h:x.within t):x.Ok:=(all_ok ht x (h.2 x (mem_all x))).1
theorem isPair_within {t x y:Tm} (h:isPair t=some (x,y)):x.within t∧y.within t∧x.size+y.size+1=t.size:=by
 obtain ⟨s,b,rfl⟩:=isPair_some h
 refine ⟨within_kid (by simp),within_kid (by simp),?_⟩
 simp only [Tm.size,sizeL]
 omega
theorem parts_all:∀ (n:Nat) (t:Tm),t.size≤n→(∀ x,x∈t.parts.1→x.within t)∧t.parts.2.within t∧sizeL t.parts.1+t.parts.1.length+t.parts.2.size=t.size
 | 0,t,h=>by have:=size_pos t;omega
 | n + 1, t, h => by
   cases hp:isPair t with
   | none =>
     rw [parts_none hp]
     exact ⟨fun x hx=>by simp at hx,within_refl t,by simp [sizeL]⟩
   | some p =>
     obtain ⟨x,y⟩:=p
     obtain ⟨w1,w2,w3⟩:=isPair_within hp
     have:=size_pos x
     obtain ⟨i1,i2,i3⟩:=parts_all n y (by omega)
     rw [parts_pair hp]
     refine ⟨fun z hz=> ?_,within_trans i2 w2,?_⟩
     · rcases List.mem_cons.1 hz with rfl | hz
       · exact w1
       · exact within_trans (i1 z hz) w2
     · simp only [sizeL, List.length_cons]
       omega
theorem parts_mem {t x:Tm} (h:x∈t.parts.1):x.within t:=(parts_all t.size t (Nat.le_refl _)).1 x h
theorem parts_rest (t:Tm):t.parts.2.within t:=(parts_all t.size t (Nat.le_refl _)).2.1
theorem parts_len (t:Tm):t.parts.1.length+1≤t.size:=by
 have:=(parts_all t.size t (Nat.le_refl _)).2.2
 have:=size_pos t.parts.2
 omega
def Small (t:Tm):Prop:=t.size≤400∧∀ x,x∈t.all→x.nm.length≤24
theorem Small.part {x t:Tm} (ht:Small t) (h:x.within t):Small x:=⟨Nat.le_trans h.1 ht.1,fun y hy=>ht.2 y (h.2 y hy)⟩
theorem nameF_len {nm:Bs} (h:nameF nm=true):nm.length≤24:=by
 cases nm with
 | nil=>simp
 | cons c r =>
   simp only [nameF,Bool.and_eq_true,decide_eq_true_eq] at h
   exact h.1
mutual
theorem nodes_names:∀ t:Tm,t.nodes=0→∀ x,x∈t.all→x.nm.length≤24
 | .mk k nm s b l, h, x, hx => by
   simp only [Tm.nodes] at h
   split at h
   · rename_i hc;exact absurd h hc
   · rename_i hc
     simp only [Tm.all,List.mem_cons] at hx
     rcases hx with rfl | hx
     · have hc : nodeF k nm s l.length = 0 := by simpa using hc
       unfold nodeF at hc
       split at hc; · omega
       split at hc; · omega
       rename_i h2
       have h2:nameF nm=true:=by simpa using h2
       exact nameF_len h2
     · exact nodesL_names l h x hx
theorem nodesL_names:∀ l:List Tm,nodesL l=0→∀ x,x∈allL l→x.nm.length≤24
 | [],_,x,hx=>by simp [allL] at hx
 | t :: r, h, x, hx => by
   simp only [nodesL] at h
   split at h
   · rename_i hc;exact absurd h hc
   · rename_i hc
     simp only [allL,List.mem_append] at hx
     rcases hx with hx | hx
     · exact nodes_names t (by simpa using hc) x hx
     · exact nodesL_names r h x hx
end
theorem valid_small {t:Tm} (h:t.valid=0):Small t:=by
 unfold Tm.valid at h
 split at h
 · contradiction
 · rename_i hc
   split at h
   · omega
   · rename_i hd
     exact ⟨by omega,nodes_names t (by simpa using hc)⟩
theorem joinB_len (sep:Bs) (K:Nat):∀ l:List Bs,(∀ s,s∈l→s.length≤K)→(joinB sep l).length≤(K+sep.length) * l.length
 | [],_=>by simp [joinB]
 | [x], h => by
   have:=h x (by simp)
   simp only [joinB,List.length_cons,List.length_nil,Nat.zero_add,Nat.mul_one]
   omega
 | x :: y :: r, h => by
   have h1:=joinB_len sep K (y :: r) (fun s hs=>h s (by simp [List.mem_cons.1 hs]))
   have h2:=h x (by simp)
   simp only [joinB,List.length_append,List.length_cons] at h1 ⊢
   rw [Nat.mul_succ]
   omega
theorem rdName_len {t:Tm} (h:Small t):(rdName t).1.length≤10000:=by
 have h1:=joinB_len [46] 24 (t.parts.1.map Tm.nm) (fun s hs=>by
  obtain ⟨x,hx,rfl⟩:=List.mem_map.1 hs
  exact h.2 x ((parts_mem hx).2 x (mem_all x)))
 have h2:=parts_len t
 have h3:=h.1
 simp only [List.length_map,List.length_cons,List.length_nil] at h1
 simp only [rdName]
 omega
theorem refName_len {t:Tm} (h:Small t):(refName t).1.length≤10000:=by
 have:=rdName_len h
 simp only [refName,rdName] at this ⊢
 split
 · exact this
 · simp
theorem rdNames_len {t:Tm} (h:Small t):(rdNames t).1.length≤400∧∀ s,s∈(rdNames t).1→s.length≤10000:=by
 have h2:=parts_len t
 have h3:=h.1
 refine ⟨by simp only [rdNames,List.length_map];omega,fun s hs=> ?_⟩
 simp only [rdNames] at hs
 obtain ⟨x,hx,rfl⟩:=List.mem_map.1 hs
 exact rdName_len (h.part (parts_mem hx))
theorem refNames_len {t:Tm} (h:Small t):(refNames t).1.length≤400∧∀ s,s∈(refNames t).1→s.length≤10000:=by
 have h2:=parts_len t
 have h3:=h.1
 simp only [refNames]
 split
 · refine ⟨by simp only [List.length_map]; omega, fun s hs => ?_⟩
   obtain ⟨x,hx,rfl⟩:=List.mem_map.1 hs
   exact refName_len (h.part (parts_mem hx))
 · exact ⟨by simp,fun s hs=>by simp at hs⟩
theorem strsL_C:∀ l:List Bs,strsL (strC l)=some l
 | []=>rfl
 | x :: r => by
   have:=strsL_C r
   simp only [strC,List.map_cons,strsL] at this ⊢
   rw [this]
theorem sign_isB {t:Tm} (h:t.isB [115,105,103,110] 2=true):∃ s b u key,t= .mk 3 [115,105,103,110] s b [u,key]:=by
 obtain ⟨k,nm,s,b,l⟩:=t
 simp only [Tm.isB,Bool.and_eq_true,decide_eq_true_eq,beq_iff_eq] at h
 obtain ⟨rfl,rfl,hl⟩:=h
 match l,hl with
 | [u,key],_=>exact ⟨s,b,u,key,rfl⟩
theorem issue_small {x:Cred} {key:Tm} (hk:x.key.Ok) (hk2:key.Ok):(x.issue key).1.Ok∧(x.issue key).1.size≤x.key.size+key.size+105:=by
 have hz:Tm.zero.size≤x.key.size+key.size+105:=by
  have:Tm.zero.size=1:=rfl
  omega
 unfold Cred.issue
 split; · exact ⟨Tm.ok_zero,hz⟩
 rename_i h1
 split; · exact ⟨Tm.ok_zero,hz⟩
 split; · exact ⟨Tm.ok_zero,hz⟩
 have hok:=cred_ok (x:=x) (by simpa using h1)
 exact ⟨term_ok hok hk hk2,term_size hok⟩
theorem firsts_step {n : Nat} {u : Tm} : firsts (n + 1) u = match isPair u with
  | some (x, y) => match firsts n y with
    | some (l,r)=>some (x :: l,r)
    | none=>none
  | none=>none:=rfl
def readB (rn:Tm→Bs×Bool) (rl:Tm→List Bs×Bool) (num:Bs→Int) (t key:Tm) (q:Option (List Tm×Tm)):Cred×Int:=match q with
 | none=>(.zero,2)
 | some (l, r) => if (credOf rn rl num l r).2 = false then (.zero, 2) else
   if ((credOf rn rl num l r).1.issue key).2≠0∨((credOf rn rl num l r).1.issue key).1.cmp t≠0 then (.zero,2) else ((credOf rn rl num l r).1,0)
theorem readF_B (rn : Tm → Bs × Bool) (rl : Tm → List Bs × Bool) (num : Bs → Int) {s : Int} {b : Bool} {u key : Tm} (h : (Tm.mk 3 [115, 105, 103, 110] s b [u, key]).valid = 0) :
  readF rn rl num (.mk 3 [115,105,103,110] s b [u,key])=readB rn rl num (.mk 3 [115,105,103,110] s b [u,key]) key (firsts 8 u):=by
 unfold readF
 rw [if_neg (by rw [h];simp [Tm.isB])]
 rfl
theorem readF_A (rn:Tm→Bs×Bool) (rl:Tm→List Bs×Bool) (num:Bs→Int) {t:Tm} (h:t.valid≠0∨t.isB [115,105,103,110] 2=false):readF rn rl num t=(.zero,2):=by
 unfold readF
 rw [if_pos h]
theorem readB_some {rn : Tm → Bs × Bool} {rl : Tm → List Bs × Bool} {num : Bs → Int} {t key : Tm} {l : List Tm} {r : Tm} {X : Cred} {B : Bool} (h : credOf rn rl num l r = (X, B)) :
  (B=false→readB rn rl num t key (some (l,r))=(.zero,2))∧(B=true→(X.issue key).2≠0→readB rn rl num t key (some (l,r))=(.zero,2))∧
  (B=true→(X.issue key).1.cmp t≠0→readB rn rl num t key (some (l,r))=(.zero,2))∧(B=true→(X.issue key).2=0→(X.issue key).1.cmp t=0→readB rn rl num t key (some (l,r))=(X,0)):=by
 simp only [readB,h]
 refine ⟨fun hB=>by rw [if_pos hB],fun hB h1=> ?_,fun hB h1=> ?_,fun hB h1 h2=> ?_⟩
 · rw [if_neg (by rw [hB];simp),if_pos (.inl h1)]
 · rw [if_neg (by rw [hB];simp),if_pos (.inr h1)]
 · rw [if_neg (by rw [hB];simp),if_neg (by rw [h1,h2];simp)]
theorem end_none {u:Tm} (h:u.cmp endT=0):isPair u=none:=by
 have h1:=isPair_cl u
 rw [cl_of_cmp _ _ h] at h1
 have h2:isPair endT.cl=none:=rfl
 rw [h2] at h1
 cases e:isPair u with
 | none=>rfl
 | some p=>rw [e] at h1;cases h1
theorem joinB_snoc (x:Bs):∀ {l:List Bs},l≠ []→joinB [46] (l ++ [x])=(joinB [46] l ++ [46]) ++ x
 | [],h=>absurd rfl h
 | [a],_=>by simp [joinB]
 | a :: b :: r, _ => by
   have:=joinB_snoc x (l:=b :: r) (by simp)
   simp only [List.cons_append,joinB] at this ⊢
   rw [this]
   simp
theorem joinB_mono {l:List Bs}:∀ {i:Nat},(joinB [46] (l.take i)).length≤(joinB [46] l).length:=by
 induction l with
 | nil=>intro i;simp
 | cons a r ih =>
   intro i
   cases i with
   | zero=>simp [joinB]
   | succ i =>
     simp only [List.take_succ_cons]
     cases r with
     | nil=>simp
     | cons b r =>
       cases i with
       | zero=>simp [joinB]
       | succ i =>
         have:=ih (i:=i+1)
         simp only [List.take_succ_cons,joinB,List.length_append] at this ⊢
         omega
def stepR (n:Int) (c:UInt8):Int:=10 * n+(c.toNat:Int) - 48
theorem foldR_bound:∀ (l:Bs) (n:Int) (B:Int), -B≤n→n≤B→0≤B→ -(B+300) * 11 ^ l.length≤l.foldl stepR n∧l.foldl stepR n≤(B+300) * 11 ^ l.length:=by
 intro l
 induction l with
 | nil=>intro n B h1 h2 h3;simp;omega
 | cons c r ih =>
   intro n B h1 h2 h3
   have hc:=c.toNat_lt
   have hs:stepR n c=10 * n+(c.toNat:Int) - 48:=rfl
   have h5:=ih (stepR n c) (10 * B+300) (by rw [hs];omega) (by rw [hs];omega) (by omega)
   simp only [List.foldl_cons,List.length_cons]
   have hp:(0:Int)≤11 ^ r.length:=Int.le_of_lt (Int.pow_pos (by decide))
   have e1:(B+300) * 11 ^ (r.length+1)=(11 * B+3300) * 11 ^ r.length:=by rw [Int.pow_succ];rw [show (11:Int) * B+3300=(B+300) * 11 by omega,Int.mul_assoc,Int.mul_comm 11]
   have e2:(10 * B+300+300) * 11 ^ r.length≤(11 * B+3300) * 11 ^ r.length:=Int.mul_le_mul_of_nonneg_right (by omega) hp
   have e3: -(B+300) * 11 ^ (r.length+1)= -((B+300) * 11 ^ (r.length+1)):=Int.neg_mul ..
   have e4: -(10 * B+300+300) * 11 ^ r.length= -((10 * B+300+300) * 11 ^ r.length):=Int.neg_mul ..
   rw [e4] at h5
   rw [e3,e1]
   omega
theorem numR_eq (s:Bs):numR s=((s.take 6).drop 1).foldl stepR 0:=rfl
theorem pre_bound (s:Bs) (i:Nat) (hi:i≤6): -1000000000≤((s.take i).drop 1).foldl stepR 0∧((s.take i).drop 1).foldl stepR 0≤1000000000:=by
 have h:=foldR_bound ((s.take i).drop 1) 0 0 (by omega) (by omega) (by omega)
 have hl:((s.take i).drop 1).length≤5:=by rw [List.length_drop,List.length_take];omega
 generalize ((s.take i).drop 1).length=k at h hl
 generalize ((s.take i).drop 1).foldl stepR 0=F at h ⊢
 rcases (show k=0∨k=1∨k=2∨k=3∨k=4∨k=5 by omega) with rfl | rfl | rfl | rfl | rfl | rfl <;> simp at h <;> omega
theorem pre_step {s:Bs} {i:Nat} {c:UInt8} (h:s[i]? = some c) (hi:1≤i):((s.take (i+1)).drop 1).foldl stepR 0=stepR (((s.take i).drop 1).foldl stepR 0) c:=by
 have hl:i < s.length:=by
  rcases Nat.lt_or_ge i s.length with h' | h'
  · exact h'
  · rw [List.getElem?_eq_none h'] at h;cases h
 rw [List.take_add_one,h,List.drop_append_of_le_length (by rw [List.length_take];omega),List.foldl_append]
 rfl
end Go.Vm
namespace Go.Vm
theorem firsts_within:∀ (n:Nat) {u:Tm} {l:List Tm} {r:Tm},firsts n u=some (l,r)→∀ x,x∈l→x.within u
 | 0, u, l, r, h, x, hx => by
   simp only [firsts,Option.some.injEq,Prod.mk.injEq] at h
   rw [← h.1] at hx
   simp at hx
 | n + 1, u, l, r, h, x, hx => by
   rw [firsts_step] at h
   cases hp:isPair u with
   | none=>rw [hp] at h;cases h
   | some p =>
     obtain ⟨a,b⟩:=p
     obtain ⟨w1,w2,_⟩:=isPair_within hp
     rw [hp] at h
     simp only at h
     cases hf:firsts n b with
     | none=>rw [hf] at h;cases h
     | some q =>
       obtain ⟨l',r'⟩:=q
       rw [hf] at h
       simp only [Option.some.injEq,Prod.mk.injEq] at h
       rw [← h.1] at hx
       rcases List.mem_cons.1 hx with rfl | hx
       · exact w1
       · exact within_trans (firsts_within n hf x hx) w2
theorem readP_case (t:Tm):readP t=(.zero,2)∨((readP t).2=0∧(readP t).1.valid=0∧(readP t).1.key.within t∧∃ s b u key,t= .mk 3 [115,105,103,110] s b [u,key]∧((readP t).1.issue key).2=0∧((readP t).1.issue key).1.cmp t=0):=by
 by_cases h:t.valid≠0∨t.isB [115,105,103,110] 2=false
 · exact .inl (readF_A _ _ _ h)
 · have h1 : t.valid = 0 := by
     by_cases e:t.valid=0
     · exact e
     · exact absurd (.inl e) h
   have h2:t.isB [115,105,103,110] 2=true:=by
    cases e:t.isB [115,105,103,110] 2 with
    | true=>rfl
    | false=>exact absurd (.inr e) h
   obtain ⟨s,b,u,key,rfl⟩:=sign_isB h2
   have e:=readF_B rdName rdNames numP h1
   change readP _=_ at e
   cases hf:firsts 8 u with
   | none=>left;rw [e,hf];rfl
   | some q =>
     obtain ⟨l,r⟩:=q
     rw [hf] at e
     obtain ⟨X,hX⟩:∃ X,X=credOf rdName rdNames numP l r:=⟨_,rfl⟩
     obtain ⟨z1,z2,z3,z4⟩:=readB_some (rn:=rdName) (rl:=rdNames) (num:=numP) (t:= .mk 3 [115,105,103,110] s b [u,key]) (key:=key) (l:=l) (r:=r) (X:=X.1) (B:=X.2) (by rw [hX])
     cases hB:X.2 with
     | false=>left;rw [e,z1 hB]
     | true =>
       by_cases e1:(X.1.issue key).2=0
       · by_cases e2 : (X.1.issue key).1.cmp (.mk 3 [115, 105, 103, 110] s b [u, key]) = 0
         · right
           rw [e,z4 hB e1 e2]
           obtain ⟨v1,v2,v3,v4⟩:=issue_ok e1
           refine ⟨rfl,v1,?_,s,b,u,key,rfl,e1,e2⟩
           rw [v4] at e2
           obtain ⟨l',r',k,f1,f2,f3,_,_⟩:=read_back v1 (term_cl e2)
           rw [hf] at f1
           cases f1
           rw [← hX] at f3
           have:X.1.key=k:=by rw [f3]
           simp only [this]
           have hm:k∈l:=by
            rw [f3] at hX
            rcases l with _ | ⟨a0,_ | ⟨a1,_ | ⟨a2,_ | ⟨a3,_ | ⟨a4,_ | ⟨a5,_ | ⟨a6,_ | ⟨a7,_ | ⟨a8,l⟩⟩⟩⟩⟩⟩⟩⟩⟩
            all_goals simp only [credOf,Prod.mk.injEq,Cred.mk.injEq] at hX
            all_goals first
             | (rw [hX.1.2.1];simp;done)
             | (exfalso;simp at hX;done)
           exact within_trans (firsts_within 8 hf k hm) (within_kid (by simp))
         · left;rw [e,z3 hB e2]
       · left;rw [e,z2 hB e1]
theorem dot_len {s:Bs} (h:dottedB s=true):s.length≤36:=by
 obtain ⟨h1,h2⟩:=dot_parts h
 have h3:=joinB_len [46] 8 (splitD s) h2
 rw [joinB_D,join_split] at h3
 simp only [List.length_cons,List.length_nil] at h3
 omega
theorem cred_small {x:Cred} (h:x= .zero∨x.valid=0):x.sub.length≤1000∧(∀ s,s∈x.per→s.length≤1000)∧(∀ s,s∈x.exc→s.length≤1000)∧x.per.length≤1000∧x.exc.length≤1000:=by
 rcases h with rfl | h
 · exact ⟨by simp [Cred.zero],fun s hs=>by simp [Cred.zero] at hs,fun s hs=>by simp [Cred.zero] at hs,by simp [Cred.zero],by simp [Cred.zero]⟩
 · have hok := cred_ok h
   exact ⟨by have:=dot_len hok.sub;omega,fun s hs=>by have:=dot_len (hok.per s hs);omega,fun s hs=>by have:=dot_len (hok.exc s hs);omega,by have:=hok.pl;omega,by have:=hok.el;omega⟩
end Go.Vm
namespace Go.Vm
noncomputable def Env.knowsG (E:Env) (l:List Fact):Env:=
 { E with
   F:=fun f=>match l.any (fun x=>Nat.beq x.f f) with | true=>none | false=>E.F f
   Z:=fun f args H=>match l.any (fun x=>Nat.beq x.f f) with
    | true => (match frzGL args with
      | some a=>(match findF l f a with | some r=>some (r,H) | none=>none)
      | none=>none)
    | false=>E.Z f args H}
section
variable {E:Env} {P:Program}
theorem callOk_frz {f:FuncId} {args args':List PV} {r:PV} {H H':Heap} (h:CallOk E P f args' H r H') (ha:frzGL args=some args'):CallOk E P f args H r H':=by
 intro g w vals hi hg hv
 obtain ⟨l1,l2⟩:=frzGL_ok ha
 exact h g w vals hi hg ⟨by rw [l1];exact hv.1,fun i h1 h2=>V.pure (g:=g) _ _ (show V0 g.S _ _ from frzG_ok (hv.2 i (by omega) h2) (l2 i (by omega) h1))⟩
theorem knowsG_calls {l:List Fact} (hl:∀ x∈l,FactOk E P x) (hZ:CallsOk E P E.Z):CallsOk (E.knowsG l) P (E.knowsG l).Z:=by
 intro f args H p H' h
 simp only [Env.knowsG] at h
 split at h
 · split at h
   · rename_i a ha
     split at h
     · rename_i r hr
       cases h
       obtain ⟨x,hx,rfl,rfl,rfl⟩:=findF_ok hr
       exact ⟨(callOk_frz (hl x hx H) ha).env rfl,fun _=>rfl⟩
     · cases h
   · cases h
 · obtain ⟨a, b⟩ := hZ _ _ _ _ _ h
   exact ⟨a.env rfl,b⟩
theorem knowsG_F {l:List Fact} (hF:FOk E P):FOk (E.knowsG l) P:=fun f fn c h=>by
 simp only [Env.knowsG] at h
 split at h
 · cases h
 · exact hF f fn c h
theorem calls_more {E':Env} (hZ:E'.Z=E.Z) (hG:E'.G=E.G) (hI:E'.I=E.I) (hm:E'.mono=true→E.mono=true) (he:∀ f,E'.eff f=false→E.eff f=false) (h:CallsOk E P E.Z):CallsOk E' P E'.Z:=by
 intro f args H p H' hz
 rw [hZ] at hz
 obtain ⟨a,b⟩:=h _ _ _ _ _ hz
 exact ⟨a.env hG hI hm,fun e=>b (he f e)⟩
end
end Go.Vm
namespace Go.Vm
section
variable {E:Env} {P:Program}
theorem dead3:∀ {m:List Nat} {A B X:Box} {ext:List Box},2∉m→∃ A' B' ext',deadL m (A :: B :: X :: ext)=A' :: B' :: X :: ext'∧(A'=A∨A'= .dead)∧(B'=B∨B'= .dead)
 | [],A,B,X,ext,_=>⟨A,B,ext,rfl,.inl rfl,.inl rfl⟩
 | 0 :: m, A, B, X, ext, h => by
   obtain ⟨A',B',ext',e,h1,h2⟩:=dead3 (m:=m) (A:= .dead) (B:=B) (X:=X) (ext:=ext) (fun x=>h (by simp [x]))
   exact ⟨A',B',ext',e,.inr (h1.elim id id),h2⟩
 | 1 :: m, A, B, X, ext, h => by
   obtain ⟨A',B',ext',e,h1,h2⟩:=dead3 (m:=m) (A:=A) (B:= .dead) (X:=X) (ext:=ext) (fun x=>h (by simp [x]))
   exact ⟨A',B',ext',e,h1,.inr (h2.elim id id)⟩
 | 2 :: m,A,B,X,ext,h=>absurd (by simp) h
 | (k + 3) :: m, A, B, X, ext, h => by
   obtain ⟨A',B',ext',e,h1,h2⟩:=dead3 (m:=m) (A:=A) (B:=B) (X:=X) (ext:=ext.set k .dead) (fun x=>h (by simp [x]))
   exact ⟨A',B',ext',e,h1,h2⟩
theorem storeC3 {k : FuncId} {al : List PV} {p : PV} {X Y : Box} {nt : Nat} {lv : List Nat} (h : ∀ A B, boxU 3 A = true → boxU 3 B = true → CallOk E P k al ⟨[A, B, X], 0, lv, nt⟩ p ⟨[A, B, Y], 0, lv, nt⟩) (hu : underL 3 al = true) (hX : boxU 3 X = true) (hd : X ≠ .dead)
  {A B:Box} (hA:boxU 3 A=true) (hB:boxU 3 B=true) (ext:List Box):StoreC E P k al ⟨A :: B :: X :: ext,0,lv,nt⟩ p 2 Y:=by
 refine ⟨by simpa using hd,fun m hm=> ?_⟩
 obtain ⟨A',B',ext',e,h1,h2⟩:=dead3 (A:=A) (B:=B) (X:=X) (ext:=ext) hm
 have hA':boxU 3 A'=true:=h1.elim (fun e=>e ▸ hA) (fun e=>e ▸ rfl)
 have hB':boxU 3 B'=true:=h2.elim (fun e=>e ▸ hB) (fun e=>e ▸ rfl)
 have hc:=(h A' B' hA' hB').ext (ext:=ext') rfl hu (by simp [hA',hB',hX]) (Nat.zero_le _)
 have e1:maskH m ⟨A :: B :: X :: ext,0,lv,nt⟩=⟨[A',B',X] ++ ext',0,lv,nt⟩:=by
  simp only [maskH,e];rfl
 have e2:setB (maskH m ⟨A :: B :: X :: ext,0,lv,nt⟩) 2 Y=⟨[A',B',Y] ++ ext',0,lv,nt⟩:=by
  rw [e1];rfl
 rw [e2,e1]
 exact hc
def Ret3 (A B Y:Box) (lv:List Nat) (nt:Nat) (p:PV) (r:PV) (H':Heap):Prop:=r=p∧∃ ext,H'=⟨A :: B :: Y :: ext,0,lv,nt⟩
theorem shed3 {f : FuncId} {args : List PV} {p : PV} {A B X Y : Box} {lv lv' : List Nat} {nt nt' : Nat} (h : ∃ r H', CallOk E P f args ⟨[A, B, X], 0, lv, nt⟩ r H' ∧ Ret3 A B Y lv' nt' p r H') (hp : under 3 p = true) (hA : boxU 3 A = true) (hB : boxU 3 B = true) (hY : boxU 3 Y = true) :
  CallOk E P f args ⟨[A,B,X],0,lv,nt⟩ p ⟨[A,B,Y],0,lv',nt'⟩:=by
 obtain ⟨r,H',h1,rfl,ext,rfl⟩:=h
 exact h1.shed (by simp) (Nat.zero_le _) hp (by simp [hA,hB,hY])
end
def tagT (nm:List UInt8):Tm:= .mk 2 nm 5 true []
def hashN:List UInt8:=[104,97,115,104]
def pairN:List UInt8:=[112,97,105,114]
def leafN:List UInt8:=[108,101,97,102]
def nodeN:List UInt8:=[110,111,100,101]
def leafT (t:Tm):Tm:= .mk 3 hashN 0 true [.mk 3 pairN 0 true [tagT leafN,t]]
def nodeT (a b:Tm):Tm:= .mk 3 hashN 0 true [.mk 3 pairN 0 true [tagT nodeN,.mk 3 pairN 0 true [a,b]]]
def halfN (n:Nat):Nat:=if n≤2 then 1 else if n≤4 then 2 else if n≤8 then 4 else if n≤16 then 8 else 16
def nextT (p:List Tm×Bool):Tm×List Tm×Bool:=match p.1 with
 | []=>(.zero,[],true)
 | t :: r=>(t,r,p.2)
def incT:Nat→Nat→Nat→Tm→List Tm×Bool→Tm×List Tm×Bool
 | 0,_,_,_,p=>(.zero,p)
 | m + 1, n, i, t, p => if n = 1 then (leafT t, p) else if i < halfN n then (nodeT (incT m (halfN n) i t p).1 (nextT (incT m (halfN n) i t p).2).1, (nextT (incT m (halfN n) i t p).2).2)
   else (nodeT (nextT (incT m (n - halfN n) (i - halfN n) t p).2).1 (incT m (n - halfN n) (i - halfN n) t p).1,(nextT (incT m (n - halfN n) (i - halfN n) t p).2).2)
theorem half_pos (n:Nat):1≤halfN n:=by unfold halfN;(repeat' split) <;> omega
theorem half_lt {n:Nat} (h:2≤n):halfN n < n:=by unfold halfN;(repeat' split) <;> omega
def ckIncT (h:Tm) (n i:Int) (t:Tm) (l:List Tm):Bool:=
 if n < 1∨32 < n∨i < 0∨n≤i∨32 < l.length then false else
  !(incT 32 n.toNat i.toNat t (l,false)).2.2 && (incT 32 n.toNat i.toNat t (l,false)).2.1.isEmpty && decide ((incT 32 n.toNat i.toNat t (l,false)).1.cmp h=0)
end Go.Vm
namespace Go.Vm
mutual
theorem nodes_cl:∀ t:Tm,t.cl.nodes=t.nodes
 | .mk k nm s b kids=>by simp only [Tm.cl,Tm.nodes,cl_len,nodesL_cl kids]
theorem nodesL_cl:∀ l:List Tm,nodesL (clL l)=nodesL l
 | []=>rfl
 | t :: r=>by simp only [clL,nodesL,nodes_cl t,nodesL_cl r]
end
mutual
theorem depth_cl:∀ t:Tm,t.cl.depth=t.depth
 | .mk k nm s b kids=>by simp only [Tm.cl,Tm.depth,depthL_cl kids]
theorem depthL_cl:∀ l:List Tm,depthL (clL l)=depthL l
 | []=>rfl
 | t :: r=>by simp only [clL,depthL,depth_cl t,depthL_cl r]
end
theorem valid_cl (t:Tm):t.cl.valid=t.valid:=by simp only [Tm.valid,nodes_cl,cl_size,depth_cl]
theorem valid_of_cl {a b:Tm} (h:a.cl=b.cl):a.valid=b.valid:=by rw [← valid_cl a,h,valid_cl b]
theorem cmp_cl_left {a b x:Tm} (h:a.cl=b.cl):a.cmp x=0↔b.cmp x=0:=by rw [cmp_iff,cmp_iff,h]
def signN:List UInt8:=[115,105,103,110]
def ledgerN:List UInt8:=[108,101,100,103,101,114]
def sizeT (n:Int) (h:Tm):Tm:= .mk 3 pairN 0 true [numT n,h]
def bodyT (n:Int) (h:Tm):Tm:= .mk 3 pairN 0 true [tagT ledgerN,sizeT n h]
def signT (h:Tm) (n:Int) (key:Tm):Tm:= .mk 3 signN 0 true [bodyT n h,key]
def signG (c:Tm→Tm) (h:Tm) (n:Int) (key:Tm):Tm×Int:=
 if h.valid≠0 then (.zero,h.valid) else if key.valid≠0 then (.zero,key.valid) else if n < 0∨32 < n then (.zero,7) else
  if (signT (c h) n (c key)).valid≠0 then (.zero,3) else (signT (c h) n (c key),0)
theorem signT_cl (h:Tm) (n:Int) (key:Tm):(signT h.cl n key.cl).cl=(signT h n key).cl:=by simp only [signT,bodyT,sizeT,Tm.cl,clL,cl_cl]
theorem sign_same (h:Tm) (n:Int) (key:Tm):(signG Tm.cl h n key).2=(signG id h n key).2∧(signG Tm.cl h n key).1.cl=(signG id h n key).1.cl:=by
 have e:=signT_cl h n key
 have v:=valid_of_cl e
 unfold signG
 simp only [id,v]
 split; · exact ⟨rfl,rfl⟩
 split; · exact ⟨rfl,rfl⟩
 split; · exact ⟨rfl,rfl⟩
 split; · exact ⟨rfl,rfl⟩
 exact ⟨rfl,e⟩
def climbT:Nat→Nat→Nat→Tm→List Tm→Tm×List Tm×Bool
 | 0,_,_,_,l=>(.zero,l,false)
 | f + 1, n, i, t, l => if n = 1 then (leafT t, l, true) else
   let r:=if i < halfN n then climbT f (halfN n) i t l else climbT f (n - halfN n) (i - halfN n) t l
   match r.2.1 with
   | []=>(r.1,[],false)
   | a :: l'=>if r.2.2=false then (r.1,a :: l',false) else if i < halfN n then (nodeT r.1 a,l',true) else (nodeT a r.1,l',true)
def ckIncR (h:Tm) (n i:Int) (t:Tm) (l:List Tm):Bool:=
 if n < 1∨32 < n∨i < 0∨n≤i∨32 < l.length then false else
  (climbT 32 n.toNat i.toNat t l).2.2 && (climbT 32 n.toNat i.toNat t l).2.1.isEmpty && decide ((climbT 32 n.toNat i.toNat t l).1.cmp h=0)
theorem next_fail {p:List Tm×Bool} (h:p.2=true):(nextT p).2.2=true:=by
 unfold nextT;split
 · rfl
 · exact h
theorem inc_climb:∀ (f n i:Nat) (t:Tm) (l:List Tm),n≤f→1≤n→(if (climbT f n i t l).2.2=true then incT f n i t (l,false)=((climbT f n i t l).1,(climbT f n i t l).2.1,false) else (incT f n i t (l,false)).2.2=true)
 | 0,n,i,t,l,h,h1=>by omega
 | f + 1, n, i, t, l, h, h1 => by
   simp only [climbT,incT]
   by_cases hn:n=1
   · simp only [if_pos hn,if_true]
   · have hhl := half_lt (n := n) (by omega)
     have hhp:=half_pos n
     simp only [if_neg hn]
     by_cases hi:i < halfN n
     · simp only [if_pos hi]
       have ih:=inc_climb f (halfN n) i t l (by omega) hhp
       generalize climbT f (halfN n) i t l=R at ih ⊢
       generalize incT f (halfN n) i t (l,false)=Q at ih ⊢
       obtain ⟨x,r,ok⟩:=R
       cases ok with
       | false =>
         rw [if_neg (by simp)] at ih
         cases r <;> simp [next_fail ih]
       | true =>
         simp only [if_true] at ih
         subst ih
         cases r <;> simp [nextT]
     · simp only [if_neg hi]
       have ih:=inc_climb f (n - halfN n) (i - halfN n) t l (by omega) (by omega)
       generalize climbT f (n - halfN n) (i - halfN n) t l=R at ih ⊢
       generalize incT f (n - halfN n) (i - halfN n) t (l,false)=Q at ih ⊢
       obtain ⟨x,r,ok⟩:=R
       cases ok with
       | false =>
         rw [if_neg (by simp)] at ih
         cases r <;> simp [next_fail ih]
       | true =>
         simp only [if_true] at ih
         subst ih
         cases r <;> simp [nextT]
def extT:Nat→Nat→Nat→Bool→Tm→List Tm×Bool→(Tm×Tm)×List Tm×Bool
 | 0,_,_,_,_,p=>((.zero,.zero),p)
 | f + 1, n, m, w, old, p => if n = m then (if w = true then ((old, old), p) else (((nextT p).1, (nextT p).1), (nextT p).2)) else
   if n≤halfN m then (((extT f n (halfN m) w old p).1.1,nodeT (extT f n (halfN m) w old p).1.2 (nextT (extT f n (halfN m) w old p).2).1),(nextT (extT f n (halfN m) w old p).2).2)
   else ((nodeT (nextT (extT f (n - halfN m) (m - halfN m) false old p).2).1 (extT f (n - halfN m) (m - halfN m) false old p).1.1,nodeT (nextT (extT f (n - halfN m) (m - halfN m) false old p).2).1 (extT f (n - halfN m) (m - halfN m) false old p).1.2),(nextT (extT f (n - halfN m) (m - halfN m) false old p).2).2)
def growT:Nat→Tm→Nat→Nat→Bool→List Tm→(Tm×Tm)×List Tm×Bool
 | 0,_,_,_,_,_=>((.zero,.zero),[],false)
 | f + 1, old, n, m, w, l => if n = m ∧ w = true then ((old, old), l, true) else if n = m then (match l with | [] => ((.zero, .zero), [], false) | a :: l' => ((a, a), l', true)) else
   let r:=if n≤halfN m then growT f old n (halfN m) w l else growT f old (n - halfN m) (m - halfN m) false l
   match r.2.1 with
   | []=>((.zero,.zero),[],false)
   | a :: l'=>if r.2.2=false then ((.zero,.zero),[],false) else if n≤halfN m then ((r.1.1,nodeT r.1.2 a),l',true) else ((nodeT a r.1.1,nodeT a r.1.2),l',true)
def ckExtR (old:Tm) (n:Int) (h:Tm) (m:Int) (l:List Tm):Bool:=
 if m < 1∨32 < m∨n < 1∨m < n∨32 < l.length then false else
  (growT 32 old n.toNat m.toNat true l).2.2 && (growT 32 old n.toNat m.toNat true l).2.1.isEmpty && decide ((growT 32 old n.toNat m.toNat true l).1.1.cmp old=0) && decide ((growT 32 old n.toNat m.toNat true l).1.2.cmp h=0)
theorem ext_grow:∀ (f n m:Nat) (w:Bool) (old:Tm) (l:List Tm),m≤f→1≤n→n≤m→(if (growT f old n m w l).2.2=true then extT f n m w old (l,false)=((growT f old n m w l).1,(growT f old n m w l).2.1,false) else (extT f n m w old (l,false)).2.2=true)
 | 0,n,m,w,old,l,h,h1,h2=>by omega
 | f + 1, n, m, w, old, l, h, h1, h2 => by
   simp only [growT,extT]
   by_cases hn:n=m
   · simp only [hn, true_and]
     cases w with
     | true=>simp
     | false=>cases l <;> simp [nextT]
   · have hhl := half_lt (n := m) (by omega)
     have hhp:=half_pos m
     simp only [hn,false_and,if_false]
     by_cases hi:n≤halfN m
     · simp only [if_pos hi]
       have ih:=ext_grow f n (halfN m) w old l (by omega) h1 hi
       generalize growT f old n (halfN m) w l=R at ih ⊢
       generalize extT f n (halfN m) w old (l,false)=Q at ih ⊢
       obtain ⟨x,r,ok⟩:=R
       cases ok with
       | false =>
         rw [if_neg (by simp)] at ih
         cases r <;> simp [next_fail ih]
       | true =>
         simp only [if_true] at ih
         subst ih
         cases r <;> simp [nextT]
     · simp only [if_neg hi]
       have ih:=ext_grow f (n - halfN m) (m - halfN m) false old l (by omega) (by omega) (by omega)
       generalize growT f old (n - halfN m) (m - halfN m) false l=R at ih ⊢
       generalize extT f (n - halfN m) (m - halfN m) false old (l,false)=Q at ih ⊢
       obtain ⟨x,r,ok⟩:=R
       cases ok with
       | false =>
         rw [if_neg (by simp)] at ih
         cases r <;> simp [next_fail ih]
       | true =>
         simp only [if_true] at ih
         subst ih
         cases r <;> simp [nextT]
structure Rd where
 svc:Tm
 size:Int
 head:Tm
 signed:Tm
def Rd.cells (c:Rd):List PV:=c.svc.cells ++ (.int .i64 c.size :: (c.head.cells ++ c.signed.cells))
def Rd.zero:Rd:=⟨.zero,0,.zero,.zero⟩
structure An where
 name:List UInt8
 entry:Tm
 idx:Int
 size:Int
 head:Tm
 signed:Tm
 ib:Bool
 incl:List Tm
 eb:Bool
 ext:List Tm
def An.cells (a:An):List PV:= .str a.name :: (a.entry.cells ++ (.int .i64 a.idx :: .int .i64 a.size :: (a.head.cells ++ (a.signed.cells ++ [slV a.ib 4 (cellsL a.incl),slV a.eb 4 (cellsL a.ext)]))))
def zeroB:Tm→Bool
 | .mk k nm s _ kids=>k == 0 && nm == [] && s == 0 && kids.isEmpty
def kid0:Tm→Tm
 | .mk _ _ _ _ (x :: _)=>x
 | _=> .zero
def pkB:Tm→Bool
 | .mk k nm _ _ _=>k == 3 && nm == [112,107]
def svcB (t:Tm):Bool:=pkB t && (decide (t.valid=0∧t.th=0) && t.fre) && t.ground
theorem svc_kid {t:Tm} (hk:pkB t=true) (ht:t.th=0):∃ s b x,t= .mk 3 [112,107] s b [x]:=by
 obtain ⟨k,nm,s,b,kids⟩:=t
 simp only [pkB,Bool.and_eq_true,beq_iff_eq] at hk
 obtain ⟨rfl,rfl⟩:=hk
 simp only [Tm.th] at ht
 rw [if_neg (by decide),if_neg (by decide)] at ht
 split at ht
 · cases ht
 · rename_i h
   have e1:(symF [112,107]).least=1:=by decide
   have e2:(symF [112,107]).most=1:=by decide
   rw [e1,e2] at h
   match kids,h with
   | [],h=>exfalso;simp at h
   | [x],_=>exact ⟨s,b,x,rfl⟩
   | x :: y :: r,h=>exfalso;simp at h;omega
def keyB (f:Tm→Tm) (c:Rd):Bool:=
 svcB c.svc && if c.size=0 then zeroB c.head && zeroB c.signed else if c.size < 1∨32 < c.size then false else
  decide ((signG f c.head c.size (kid0 c.svc)).2=0) && decide ((signG f c.head c.size (kid0 c.svc)).1.cmp c.signed=0)
theorem key_same (c:Rd):keyB Tm.cl c=keyB id c:=by
 have h:=sign_same c.head c.size (kid0 c.svc)
 have hc:=cmp_cl_left (x:=c.signed) h.2
 unfold keyB
 rw [h.1,decide_eq_decide.2 hc]
def credN (name:List UInt8) (key:Tm) (i t:Int):Cred:=⟨name,key,false,true,[],true,[],i,0,t⟩
def accR (c:Rd) (a:An):Rd×Tm×Int:=
 if keyB id c=false then (.zero,.zero,1) else
 if (readP a.entry).2≠0∨(readP a.entry).1.sub≠a.name then (.zero,.zero,2) else
 if ((credN (readP a.entry).1.sub (readP a.entry).1.key a.idx 9999).issue (kid0 c.svc)).2≠0∨a.entry.cmp ((credN (readP a.entry).1.sub (readP a.entry).1.key a.idx 9999).issue (kid0 c.svc)).1≠0 then (.zero,.zero,2) else
 if a.size < c.size then (.zero,.zero,9) else
 if (signG id a.head a.size (kid0 c.svc)).2≠0∨(signG id a.head a.size (kid0 c.svc)).1.cmp a.signed≠0∨ckIncR a.head a.size a.idx a.entry a.incl=false then (.zero,.zero,18) else
 if 0 < c.size∧ckExtR c.head c.size a.head a.size a.ext=false then (.zero,.zero,18) else
 (⟨c.svc,a.size,a.head,a.signed⟩,(readP a.entry).1.key,0)
end Go.Vm
namespace Go.Vm
section
variable {E:Env} {P:Program} {own:Tmp→Bool} {n:Nat} {K:TM→Heap→Prop} {tm:TM}
theorem dCt {ops : Array Oper} {n0 i : Nat} {r : List Oper} {d : Nat} {ty : TypeId} {pos : String} {aft : Array Edge} {grd : Option (Nat × Bool)} {p : PV} {f : Operand} {args : Array Operand} {ats : Array TypeId} {k : FuncId} {caps al : List PV} {bx : List Box} {ro nt nt' : Nat} {lv lv' : List Nat}
  (hw:wantedA ops.toList tm ⟨some d,.call {callee:= .value f,args:=args,argTypes:=ats},ty,pos,aft,grd⟩=some true) (hn:Nat.blt d n=true) (hf:evalO E tm f= .fn k caps)
  (ha:args.toList.map (evalO E tm) ++ caps=al) (hc:clsO E own ⟨some d,.call {callee:= .value f,args:=args,argTypes:=ats},ty,pos,aft,grd⟩= .tk) (h:CallOk E P k al ⟨bx,bx.length,lv,nt⟩ p ⟨bx,bx.length,lv',nt'⟩)
  (hr:DrwQ E P own n ops n0 (i+1) r K (setD tm (some d) p) ⟨bx,ro,lv',nt'⟩):DrwQ E P own n ops n0 i (⟨some d,.call {callee:= .value f,args:=args,argTypes:=ats},ty,pos,aft,grd⟩ :: r) K tm ⟨bx,ro,lv,nt⟩:=by
 have e:growH ⟨bx,ro,lv,nt⟩ ⟨bx,bx.length,lv',nt'⟩=⟨bx,ro,lv',nt'⟩:=by simp [growH]
 refine .stepN (p:=p) (H1:=⟨bx,ro,lv',nt'⟩) (by simp only [dstOk,hn]) (.inr (.inr ⟨hc,fun j b hj=>hj⟩)) (fun ho'=> ?_) hr
 have hci:=(clsI_eq (E:=E) (own:=own) ho').trans hc
 refine ⟨by rw [hci];simp,.inr (.inl ⟨by rw [hci];exact ⟨by simp,by simp,by simp⟩,?_⟩)⟩
 have:=Hp.tk (E:=E) (P:=P) (own:=own) (ops:=ops) (n0:=n0) (cls:=clsI E own ops) (tgt:=fun _=>n0) (msk:=fun _=>[]) (i:=i) (o:=⟨some d,.call {callee:= .value f,args:=args,argTypes:=ats},ty,pos,aft,grd⟩) (tm:=tm) ⟨bx,ro,lv,nt⟩ p ⟨bx,bx.length,lv',nt'⟩ hw hci
  (.call _ _ _ _ _ _ _ rfl hf (by rw [ha];exact h)) (Nat.le_refl _)
 rw [e] at this
 exact this
end
end Go.Vm
namespace Go.Vm
def kid1:Tm→Tm
 | .mk _ _ _ _ (_ :: x :: _)=>x
 | _=> .zero
def atomD:Tm→Bool
 | .mk k _ s _ _=>decide (k=2) && decide (s=4)
def sgnF (t k:Tm):Bool:=t.isB signN 2 && (decide ((kid1 t).cmp k=0) && ((kid0 t).isB pairN 2 && (decide ((kid0 (kid0 t)).cmp (tagT ledgerN)=0) && ((kid1 (kid0 t)).isB pairN 2 && atomD (kid0 (kid1 (kid0 t)))))))
def forkF (a b k:Tm):Bool:=sgnF a k && (sgnF b k && (decide ((kid0 (kid1 (kid0 a))).cmp (kid0 (kid1 (kid0 b)))=0) && !decide ((kid1 (kid1 (kid0 a))).cmp (kid1 (kid1 (kid0 b)))=0)))
def audF (a b:Rd):Bool×Int:=if keyB id a=false∨keyB id b=false then (false,1) else if a.svc.cmp b.svc≠0 then (false,11) else (forkF a.signed b.signed (kid0 a.svc),0)
theorem cl_two {t:Tm} {nm:List UInt8} {x y:Tm} (e:t.cl=(Tm.mk 3 nm 0 true [x,y]).cl):t.isB nm 2=true∧(kid0 t).cl=x.cl∧(kid1 t).cl=y.cl:=by
 obtain ⟨k,n,s,b,kids⟩:=t
 simp only [Tm.cl,clL,Tm.mk.injEq] at e
 obtain ⟨rfl,rfl, -, -,e⟩:=e
 match kids,e with
 | [],e=>simp [clL] at e
 | [a],e=>simp [clL] at e
 | a :: c :: d :: r,e=>simp [clL] at e
 | [a, c], e =>
   simp only [clL,List.cons.injEq,and_true] at e
   exact ⟨by simp [Tm.isB],e.1,e.2⟩
theorem sgn_of {t h k:Tm} {n:Int} (e:t.cl=(signT h n k).cl):sgnF t k=true∧(kid0 (kid1 (kid0 t))).cl=(numT n).cl∧(kid1 (kid1 (kid0 t))).cl=h.cl:=by
 obtain ⟨a1,a2,a3⟩:=cl_two (show t.cl=(Tm.mk 3 signN 0 true [bodyT n h,k]).cl from e)
 obtain ⟨b1,b2,b3⟩:=cl_two (show (kid0 t).cl=(Tm.mk 3 pairN 0 true [tagT ledgerN,sizeT n h]).cl from a2)
 obtain ⟨c1,c2,c3⟩:=cl_two (show (kid1 (kid0 t)).cl=(Tm.mk 3 pairN 0 true [numT n,h]).cl from b3)
 have hat:atomD (kid0 (kid1 (kid0 t)))=true:=by
  generalize kid0 (kid1 (kid0 t))=u at c2
  obtain ⟨k',n',s',b',kids'⟩:=u
  simp only [numT,atomT,Tm.cl,clL,Tm.mk.injEq] at c2
  simp [atomD,c2.1,c2.2.2.1]
 refine ⟨?_,c2,c3⟩
 simp only [sgnF,a1,b1,c1,hat,decide_eq_true (cmp_iff.2 a3),decide_eq_true (cmp_iff.2 b2),Bool.and_self]
theorem key_signed {f:Tm→Tm} {c:Rd} (h:keyB f c=true) (hp:0 < c.size):c.signed.cl=(signT (f c.head) c.size (f (kid0 c.svc))).cl:=by
 unfold keyB at h
 simp only [Bool.and_eq_true] at h
 obtain ⟨-,h⟩:=h
 rw [if_neg (by omega)] at h
 split at h
 · cases h
 · simp only [Bool.and_eq_true, decide_eq_true_eq] at h
   obtain ⟨h1,h2⟩:=h
   rw [← cmp_iff.1 h2]
   unfold signG at h1 ⊢
   split at h1; · contradiction
   split at h1; · contradiction
   split at h1; · contradiction
   split at h1; · contradiction
   rename_i q1 q2 q3 q4
   rw [if_neg q1,if_neg q2,if_neg q3,if_neg q4]
theorem kid0_cl {a b:Tm} (h:a.cl=b.cl):(kid0 a).cl=(kid0 b).cl:=by
 obtain ⟨k,n,s,t,kids⟩:=a
 obtain ⟨k',n',s',t',kids'⟩:=b
 simp only [Tm.cl,Tm.mk.injEq] at h
 obtain ⟨-, -, -, -,h⟩:=h
 cases kids <;> cases kids' <;> simp [clL] at h
 · rfl
 · exact h.1
theorem fork_heads {a b:Rd} (ha:keyB id a=true) (hb:keyB id b=true) (pa:0 < a.size) (hs:a.size=b.size) (hv:a.svc.cl=b.svc.cl):forkF a.signed b.signed (kid0 a.svc)= !decide (a.head.cmp b.head=0):=by
 have e1:=key_signed ha pa
 have e2:=key_signed hb (by omega)
 have e3:(signT (id b.head) b.size (id (kid0 b.svc))).cl=(signT b.head a.size (kid0 a.svc)).cl:=by
  rw [hs]
  simp only [id,signT,Tm.cl,clL,kid0_cl hv]
 rw [e3] at e2
 obtain ⟨x1,x2,x3⟩:=sgn_of e1
 obtain ⟨y1,y2,y3⟩:=sgn_of e2
 have z1:(kid0 (kid1 (kid0 a.signed))).cmp (kid0 (kid1 (kid0 b.signed)))=0:=cmp_iff.2 (by rw [x2,y2])
 have x1:sgnF a.signed (kid0 a.svc)=true:=x1
 have z2:decide ((kid1 (kid1 (kid0 a.signed))).cmp (kid1 (kid1 (kid0 b.signed)))=0)=decide (a.head.cmp b.head=0):=by
  rw [decide_eq_decide,cmp_iff,cmp_iff,x3,y3]
  rfl
 simp only [forkF,x1,y1,decide_eq_true z1,z2,Bool.true_and]
theorem acc_key {c:Rd} {a:An} (h:(accR c a).2.2=0):keyB id (accR c a).1=true∧(accR c a).1.svc=c.svc∧1≤(accR c a).1.size∧(accR c a).1.size≤32:=by
 unfold accR at h ⊢
 split at h; · contradiction
 split at h; · contradiction
 split at h; · contradiction
 split at h; · contradiction
 split at h; · contradiction
 split at h; · contradiction
 rename_i q1 q2 q3 q4 q5 q6
 rw [if_neg q1,if_neg q2,if_neg q3,if_neg q4,if_neg q5,if_neg q6]
 have k1:svcB c.svc=true:=by
  have:keyB id c=true:=by simpa using q1
  unfold keyB at this
  simp only [Bool.and_eq_true] at this
  exact this.1
 have k2:(signG id a.head a.size (kid0 c.svc)).2=0:=Classical.byContradiction fun e=>q5 (.inl e)
 have k3:(signG id a.head a.size (kid0 c.svc)).1.cmp a.signed=0:=Classical.byContradiction fun e=>q5 (.inr (.inl e))
 have k4:ckIncR a.head a.size a.idx a.entry a.incl=true:=by
  cases e:ckIncR a.head a.size a.idx a.entry a.incl with
  | true=>rfl
  | false=>exact absurd (.inr (.inr e)) q5
 have k5:1≤a.size∧a.size≤32:=by
  unfold ckIncR at k4
  split at k4
  · cases k4
  · omega
 refine ⟨?_,rfl,k5⟩
 simp only [keyB,k1,Bool.true_and]
 rw [if_neg (by omega),if_neg (by omega),decide_eq_true k2,decide_eq_true k3]
 rfl
end Go.Vm
namespace Go.Vm
open Go.RowKit
section
variable {E:Env} {P:Program} {w:World}
theorem calls_of3 {f : FuncId} {fn : Func} {c : Code} (hf : FnOk P f fn c) (hG : GOk E (wG w)) {args : List PV} {r : PV} (h : CallOk E P f args hNil r hNil) {vals : Array Value} (hv : CellsOf (wS w) args vals.toList) :
  Calls P f vals w fun e w'=>∃ v,e= .returned v∧(∃ g',V g' r v)∧GrownB w w'∧∀ k,k < w.heap.size→w'.heap[k]? = w.heap[k]? :=by
 have hu:=h (wG w) w vals (wG_inv w) hG ⟨hv.1,fun i h1 h2=> .pure _ _ (hv.2 i h1 h2)⟩
 rw [callFunc_enter hf] at hu
 exact Calls.mono hu fun e w' ⟨v,e1,g',hp,_,k⟩=>⟨v,e1,⟨g',hp⟩,grown_of_keep k,fun i hi=>k.heap i hi (nil_shut _ i)⟩
end
section
variable {P:Program} {H:Type} {enc:TypeId×Value→H} {w:World} {base:Nat} {spare:Nat→Bool} {held:Bool}
end
end Go.Vm
